/- POne. -/
import Derived.Test.YtloaichcpoboeaaGreatDoorBTwo
import Derived.Test.YtloaichcpoboeaaGreatDoorUFour
import Derived.Test.YtloaichcpoboeaaGreatDoorEOne
import Derived.Test.YtloaichcpoboeaaGreatDoorGOne
import Derived.Test.YtloaichcpoboeaaGreatDoorBThree
import Derived.Test.YtloaichcpoboeaaGreatDoorMOne
import Derived.Test.YtloaichcpoboeaaGreatDoorCNine
set_option maxHeartbeats 1000000
set_option maxRecDepth 100000
set_option linter.unusedSimpArgs false
set_option linter.unusedVariables false
namespace Go.Proofs.Am
open Go Go.RowKit
open Go.Proofs
noncomputable def bd5 {α:Type} (n:Nat) (f:Nat→α):α:=Nat.rec (motive:=fun _=>α) (f 0) (fun m _=>f (Nat.succ m)) n
noncomputable def bdc {α:Type} (x:Int) (f:Int→α):α:=match x with
 | .ofNat n=>bd5 n fun m=>f (Int.ofNat m)
 | .negSucc n=>f (Int.negSucc n)
theorem a8c{α:Type}(n:Nat)(f:Nat→α):bd5 n f=f n:=by cases n<;>rfl
theorem a6b{α:Type}(x:Int)(f:Int→α):bdc x f=f x:=by
 cases x with
 |ofNat n=>exact a8c n fun m=>f (Int.ofNat m)
 |negSucc n=>rfl
noncomputable def ayf {α:Type} (l:List Int):(List Int→α)→α:=List.rec (motive:=fun _=>(List Int→α)→α) (fun f=>f []) (fun a _ ih f=>bdc a fun b=>ih fun r=>f (b::r)) l
theorem aa6{α:Type}(l:List Int): ∀f:List Int→α,ayf l f=f l:=by
 induction l with
 |nil=>intro f;rfl
 |cons a r ih=>
  intro f
  show bdc a (fun b=>ayf r fun r=>f (b::r))=_
  rw[a6b,ih]
noncomputable def wAS {α:Type} (b:List UInt8) (m:Nat):(List Int→α)→α:=Nat.rec (motive:=fun _=>(List Int→α)→α) (fun f=>f (List.replicate 64 0)) (fun m ih f=>ih fun w=>ayf (w.set m (w16 b m)) f) m
noncomputable def wBS {α:Type} (b:List UInt8) (m:Nat):(List Int→α)→α:=Nat.rec (motive:=fun _=>(List Int→α)→α) (fun f=>wAS b 16 f) (fun m ih f=>ih fun w=>ayf (w.set (16+m) (wst w m)) f) m
noncomputable def bdz {α:Type} (h k w:List Int) (m:Nat):(List Int→α)→α:=Nat.rec (motive:=fun _=>(List Int→α)→α) (fun f=>f h) (fun m ih f=>ih fun v=>ayf (rnd v (el k m) (el w m)) f) m
noncomputable def bc8 {α:Type} (v h:List Int) (m:Nat):(List Int→α)→α:=Nat.rec (motive:=fun _=>(List Int→α)→α) (fun f=>f v) (fun m ih f=>ih fun u=>ayf (u.set m (ad (el u m) (el h m))) f) m
theorem a3w{α:Type}(b:List UInt8): ∀(m:Nat) (f:List Int→α),wAS b m f=f (wA b m)
 |0,_=>rfl
 |m+1,f=>by
  show wAS b m (fun w=>ayf (w.set m (w16 b m)) f)=_
  rw[a3w b m,aa6];rfl
theorem a4a{α:Type}(b:List UInt8): ∀(m:Nat) (f:List Int→α),wBS b m f=f (wB b m)
 |0,f=>a3w b 16 f
 |m+1,f=>by
  show wBS b m (fun w=>ayf (w.set (16+m) (wst w m)) f)=_
  rw[a4a b m,aa6];rfl
theorem asi{α:Type}(h k w:List Int): ∀(m:Nat) (f:List Int→α),bdz h k w m f=f (aha h k w m)
 |0,_=>rfl
 |m+1,f=>by
  show bdz h k w m (fun v=>ayf (rnd v (el k m) (el w m)) f)=_
  rw[asi h k w m,aa6];rfl
theorem at4{α:Type}(v h:List Int): ∀(m:Nat) (f:List Int→α),bc8 v h m f=f (fin v h m)
 |0,_=>rfl
 |m+1,f=>by
  show bc8 v h m (fun u=>ayf (u.set m (ad (el u m) (el h m))) f)=_
  rw[at4 v h m,aa6];rfl
noncomputable def bb2 {α:Type} (h:List Int) (b:List UInt8) (f:List Int→α):α:=wBS b 48 fun w=>bdz h kK w 64 fun v=>bc8 v h 8 f
theorem a5l{α:Type}(h:List Int)(b:List UInt8)(f:List Int→α):bb2 h b f=f (a3t h b kK):=by
 unfold bb2 a3t
 rw[a4a,asi,at4]
noncomputable def hsS {α:Type} (b:List UInt8) (m:Nat):(List Int→α)→α:=Nat.rec (motive:=fun _=>(List Int→α)→α) (fun f=>f h0) (fun m ih f=>ih fun h=>bb2 h ((b.take (64*m+64)).drop (64*m)) f) m
theorem azm{α:Type}(a:List UInt8)(f:List Int→α):hsS a 0 f=f h0:=rfl
theorem a17{α:Type}(a:List UInt8)(m:Nat):hsS (α:=α) a (m+1)=fun f=>hsS a m fun h=>bb2 h ((a.take (64*m+64)).drop (64*m)) f:=rfl
theorem a4v(b:List UInt8):hs b 0=h0:=(rfl)
theorem a6k(b:List UInt8)(m:Nat):hs b (m+1)=a3t (hs b m) (((zm b).take (64*m+64)).drop (64*m)) kK:=(rfl)
theorem ba4{α:Type}(b:List UInt8)(m:Nat): ∀(f:List Int→α),hsS (zm b) m f=f (hs b m):=by
 induction m with
 |zero=>intro f;rw[azm,a4v]
 |succ m ih=>
  intro f
  rw[a17]
  dsimp only
  rw[ih,a5l,a6k]
def apm(a b:Stm):Int:=or2 (fu a.nu b.nu) (Lib.compareBytes a.sd b.sd)
def ltN(a b:Stm):Bool:=decide (apm a b<0)
def dl(a b:Stm):Bool:=decide (apm a b=0)
theorem to_N:TO (fun p q:Int×List UInt8=>or2 (fu p.1 q.1) (Lib.compareBytes p.2 q.2)):=l6 ky alw
theorem awf{a b:Stm}:apm a b=0↔a.nu=b.nu∧a.sd=b.sd:=by
 have:=to_N.eq (a.nu,a.sd) (b.nu,b.sd)
 simpa only[apm,Prod.mk.injEq] using this
theorem uy{a b:Stm}:apm a b<0↔0<apm b a:=to_N.flip (a.nu,a.sd) (b.nu,b.sd)
def l9(s:Stm):Bool:=decide (aj s=0)&&decide (s.sk=s.au∧s.sd=dig s)
def pg(L:List Stm)(a:Int):List Stm:=L.filter fun s=>decide (s.au=a)&&l9 s
theorem ge{L:List Stm}{a:Int}{s:Stm}:s∈pg L a↔s∈L∧s.au=a∧l9 s=true:=by
 simp[pg,List.mem_filter]
def CF(L:List Stm):Prop:= ∀s∈L,∀t∈L,l9 s=true→l9 t=true→s.au=t.au→s.nu=t.nu→s.sd=t.sd→s=t
theorem CF.own{L:List Stm}(h:CF L){a:Int}{s t:Stm}(hs:s∈pg L a)(ht:t∈pg L a)(h1:s.nu=t.nu)(h2:s.sd=t.sd):s=t:=by
 obtain⟨a1,a2,a3⟩:=ge.1 hs
 obtain⟨b1,b2,b3⟩:=ge.1 ht
 exact h s a1 t b1 a3 b3 (a2.trans b2.symm) h1 h2
def aqv(l:List Stm):List Stm:=l.mergeSort fun a b=> !decide (apm b a<0)
def ix(L:List Stm)(a:Int):List Stm:=kp dl (aqv (pg L a)) (aqv (pg L a)).length
theorem af0(a b:Stm):dl a b=true↔(ltN a b=false∧ltN b a=false):=by
 have h1:=uy (a:=a) (b:=b)
 have h2:=uy (a:=b) (b:=a)
 unfold dl ltN
 rw[decide_eq_true_iff,decide_eq_false_iff_not,decide_eq_false_iff_not]
 constructor
 ·intro h;constructor<;>omega
 ·rintro⟨h3,h4⟩;omega
theorem bdh{L:List Stm}{a:Int}(h:CF L):KO ltN (fun s=>s∈pg L a) where
 irr x:=decide_eq_false (to_N.irr (x.nu,x.sd))
 tr x y z h1 h2:=decide_eq_true (to_N.tr (x.nu,x.sd) (y.nu,y.sd) (z.nu,z.sd) (of_decide_eq_true h1) (of_decide_eq_true h2))
 nt x y z h1 h2:=decide_eq_false (to_N.nt (x.nu,x.sd) (y.nu,y.sd) (z.nu,z.sd) (of_decide_eq_false h1) (of_decide_eq_false h2))
 tri x y hx hy h1 h2:=by
  have h3:=of_decide_eq_true ((af0 x y).2 ⟨h1,h2⟩)
  obtain⟨e1,e2⟩:=awf.1 h3
  exact h.own hx hy e1 e2
theorem at8(l:List Stm):(aqv l).Pairwise fun a b=>ltN b a=false:=by
 have:=List.pairwise_mergeSort (le:=fun a b:Stm=> !decide (apm b a<0)) (fun a b c h1 h2=>by
  simp only[Bool.not_eq_true',decide_eq_false_iff_not]at h1 h2 ⊢
  exact to_N.nt (c.nu,c.sd) (b.nu,b.sd) (a.nu,a.sd) h2 h1) (fun a b=>by
  simp only[Bool.or_eq_true,Bool.not_eq_true',decide_eq_false_iff_not]
  have h1:=uy (a:=b) (b:=a)
  omega) l
 exact this.imp fun h=>by simpa [ltN] using h
theorem ui{L:List Stm}{a:Int}(h:CF L):SS ltN (ix L a)∧∀s,s∈ix L a↔s∈pg L a:=by
 have hp:=List.mergeSort_perm (pg L a) fun a b:Stm=> !decide (apm b a<0)
 have h:=(bdh (a:=a) h).kp_inv af0 (l:=aqv (pg L a)) (fun x hx=>hp.mem_iff.1 hx) (at8 _) _ (Nat.le_refl _)
 refine⟨h.1,fun x=> ?_⟩
 rw[ix,h.2,List.take_length]
 exact hp.mem_iff
theorem ack(L:List Stm)(a:Int):(pg L a).length≤L.length:=List.length_filter_le _ _
theorem ud(L:List Stm)(a:Int):(ix L a).length≤L.length:=by
 have h1:=zn dl (aqv (pg L a)) (aqv (pg L a)).length
 have h2:(aqv (pg L a)).length=(pg L a).length:=List.length_mergeSort _
 have h3:=ack L a
 unfold ix
 omega
def ada(M:List Stm)(i:Nat):Bool:=decide (0<i)&&decide ((el M i).nu=(el M (i - 1)).nu)
def fa(M:List Stm):List (Stm×Stm):=match (List.range M.length).find? (ada M)with|some i=>[(el M (i - 1),el M i)]|none=>[]
theorem az1{M:List Stm}{i:Nat}(hi:i<M.length)(h:ada M i=true)(hb: ∀j,j<i→ada M j=false):fa M=[(el M (i - 1),el M i)]:=by
 have:(List.range M.length).find? (ada M)=some i:=List.find?_range_eq_some.2 ⟨h,by simpa using hi,fun j hj=>by simp[hb j hj]⟩
 rw[fa,this]
theorem apy{M:List Stm}(hb: ∀j,j<M.length→ada M j=false):fa M=[]:=by
 have:(List.range M.length).find? (ada M)=none:=List.find?_range_eq_none.2 fun j hj=>by simp[hb j hj]
 rw[fa,this]
theorem aar(M:List Stm):(fa M=[]∧∀j,j<M.length→ada M j=false)∨∃i,0<i∧i<M.length∧fa M=[(el M (i - 1),el M i)]:=by
 cases h:(List.range M.length).find? (ada M)with
 |none=>exact .inl ⟨by rw[fa,h],fun j hj=>by simpa using List.find?_range_eq_none.1 h j hj⟩
 |some i=>
  obtain⟨h1,h2,_⟩:=List.find?_range_eq_some.1 h
  rw[ada,Bool.and_eq_true]at h1
  exact .inr ⟨i,of_decide_eq_true h1.1,by simpa using h2,by rw[fa,h]⟩
def ayc(v:Vt)(s:Stm):Bool:=decide ((ofE s).2=0)&&(br (ofE s).1.c v.c&&decide (m8 (ofE s).1.x v.x=0))
def aor(M:List Stm)(v:Vt):Stm:=el M (a36 (ayc v) M).toNat
def aev(M:List Stm):List (Stm×Stm):=(jr M).flatMap fun c=>if 1<(ay M c).length then [(aor M (el (ay M c) 0),aor M (el (ay M c) 1))]else []
def pfs(k:Int)(l:List (Stm×Stm)):List (Int×Stm×Stm):=l.map fun p=>(k,p.1,p.2)
def xa(M:List Stm):List (Int×Stm×Stm):=if 1<M.length then pfs 1 (fa M)++pfs 2 (aev M)else []
def lq(L:List Stm)(n:Nat):List (Int×Stm×Stm):=(List.range n).flatMap fun a:Nat=>xa (ix L a)
def au9(L:List Stm):List Int:=ax6 ((lq L 64).map fun p=>p.2.1.au)
def gB(L:List Stm)(a:Int):Bool:=(pg L a).any fun s=>(pg L a).any fun t=>decide (s.nu=t.nu)&&decide (s≠t)
theorem ame{L:List Stm}{a:Int}:gB L a=true↔∃s∈pg L a,∃t∈pg L a,s.nu=t.nu∧s≠t:=by
 simp[gB,List.any_eq_true]
theorem ba0{a b:Stm}(h:ltN a b=true):a.nu≤b.nu:=by
 have h1:=of_decide_eq_true h
 unfold apm or2 fu at h1
 repeat' split at h1
 all_goals omega
theorem akm{L:List Stm}{a:Int}(h:CF L):fa (ix L a)≠[]↔gB L a=true:=by
 obtain⟨hs,hm⟩:=ui (a:=a) h
 rw[ame]
 constructor
 ·intro hne
  rcases aar (ix L a)with ⟨h1,_⟩|⟨i,h0,hi,h2⟩
  ·exact absurd h1 hne
  ·have hadj:ada (ix L a) i=true:=by
    cases hf:(List.range (ix L a).length).find? (ada (ix L a))with
    |none=>rw[fa,hf]at h2;cases h2
    |some k=>
     obtain⟨k1,k2,_⟩:=List.find?_range_eq_some.1 hf
     have k3:fa (ix L a)=[(el (ix L a) (k - 1),el (ix L a) k)]:=by rw[fa,hf]
     rw[h2]at k3
     rw[ada,Bool.and_eq_true]at k1
     have k4:=of_decide_eq_true k1.2
     simp only[List.cons.injEq,Prod.mk.injEq,and_true]at k3
     rw[ada,decide_eq_true h0,Bool.true_and,decide_eq_true_iff,k3.1,k3.2]
     exact k4
   rw[ada,Bool.and_eq_true]at hadj
   have hnu:=of_decide_eq_true hadj.2
   have e1:=bj hi
   have e2:=bj (show i - 1<(ix L a).length by omega)
   refine⟨_,(hm _).1 e1,_,(hm _).1 e2,hnu,fun he=> ?_⟩
   have hlt:=List.pairwise_iff_getElem.1 hs (i - 1) i (by omega) hi (by omega)
   rw[←elG _ _ (by omega),←elG _ _ hi,he,(bdh (a:=a) h).irr]at hlt
   cases hlt
 ·rintro⟨s,s1,t,t1,hnu,hne⟩ hnil
  rcases aar (ix L a)with ⟨_,h2⟩|⟨i,_,_,h3⟩
  rotate_left
  ·rw[hnil]at h3;cases h3
  obtain⟨i,hi,rfl⟩:=afx ((hm s).2 s1)
  obtain⟨j,hj,rfl⟩:=afx ((hm t).2 t1)
  have mono: ∀i j,i<j→j<(ix L a).length→(el (ix L a) i).nu≤(el (ix L a) j).nu:=fun i j hij hj=>by
   have hlt:=List.pairwise_iff_getElem.1 hs i j (by omega) hj hij
   rw[←elG _ _ (by omega),←elG _ _ hj]at hlt
   exact ba0 hlt
  have key: ∀i j,i<j→j<(ix L a).length→(el (ix L a) i).nu=(el (ix L a) j).nu→False:=fun i j hij hj he=>by
   have h4:=h2 (i+1) (by omega)
   rw[ada,decide_eq_true (by omega),Bool.true_and,Nat.add_sub_cancel,decide_eq_false_iff_not]at h4
   have m1:=mono i (i+1) (by omega) (by omega)
   by_cases hij2:i+1=j
   ·exact h4 (by rw[hij2];exact he.symm)
   ·have m2:=mono (i+1) j (by omega) hj
    exact h4 (by omega)
  rcases Nat.lt_trichotomy i j with h5|h5|h5
  ·exact key i j h5 hj hnu
  ·subst h5;exact hne rfl
  ·exact key j i h5 hi hnu.symm
def UNI(L:List Stm):Prop:= ∀c,∀s∈L,∀t∈L,okV c s=true→okV c t=true→s.au=t.au→s.nu=t.nu
theorem axm{p:Stm→Bool}{l:List Stm}(h:l.any p=true): ∃i:Nat,a36 p l=(i:Int)∧i<l.length∧p (el l i)=true:=by
 cases hf:l.findIdx? p with
 |none=>
  rw[List.findIdx?_eq_none_iff]at hf
  rw[List.any_eq_true]at h
  obtain⟨x,hx,hp⟩:=h
  rw[hf x hx]at hp
  cases hp
 |some i=>
  obtain⟨h1,h2,_⟩:=List.findIdx?_eq_some_iff_getElem.1 hf
  exact⟨i,by rw[a36,hf],h1,by rw[elG _ _ h1];exact h2⟩
theorem asq{M:List Stm}{c:Cs}{v:Vt}(h:v∈ay M c):M.any (ayc v)=true:=by
 obtain⟨s,hs,ho,rfl⟩:=iz.1 h
 refine List.any_eq_true.2 ⟨s,hs,?_⟩
 have h1:=(Bool.and_eq_true_iff.1 ho).1
 have h2:(ofE s).2=0:=of_decide_eq_true (Bool.and_eq_true_iff.1 h1).1
 unfold ayc
 rw[decide_eq_true h2,Bool.true_and]
 have e1:(d4 s).1=(ofE s).1:=rfl
 rw[e1,(abs _ _).2 rfl]
 simp[br]
theorem a3d{M:List Stm}{c:Cs}{v:Vt}(h:v∈ay M c):aor M v∈M:=by
 obtain⟨i,h1,h2,_⟩:=axm (asq h)
 unfold aor
 rw[h1,Int.toNat_natCast]
 exact bj h2
theorem aqj{L:List Stm}{a:Int}(h:CF L)(hu:UNI L)(hd:aev (ix L a)≠[]):gB L a=true:=by
 obtain⟨_,hm⟩:=ui (a:=a) h
 obtain⟨p,hp⟩:=List.exists_mem_of_ne_nil _ hd
 obtain⟨c,_,hc⟩:=List.mem_flatMap.1 hp
 split at hc
 rotate_left
 ·simp at hc
 rename_i hl
 have hss:=(aag (ix L a) c).1
 have hlt:=List.pairwise_iff_getElem.1 hss 0 1 (by omega) hl (by omega)
 obtain⟨s0,s1,s2,s3⟩:=iz.1 (List.getElem_mem (show 0<(ay (ix L a) c).length by omega))
 obtain⟨t0,t1,t2,t3⟩:=iz.1 (List.getElem_mem hl)
 have m1:=(hm _).1 s1
 have m2:=(hm _).1 t1
 obtain⟨a1,a2,_⟩:=ge.1 m1
 obtain⟨b1,b2,_⟩:=ge.1 m2
 refine ame.2 ⟨s0,m1,t0,m2,hu c s0 a1 t0 b1 s2 t2 (a2.trans b2.symm),fun he=> ?_⟩
 subst he
 rw[←s3,←t3]at hlt
 have:=(a9z c).irr (d4 s0).1
 rw[this]at hlt
 cases hlt
theorem a2p{L:List Stm}{a:Int}(h:CF L): ∀p∈xa (ix L a),p.2.1.au=a:=fun p hp=>by
 obtain⟨_,hm⟩:=ui (a:=a) h
 unfold xa at hp
 split at hp
 rotate_left
 ·simp at hp
 rcases List.mem_append.1 hp with hp|hp
 ·obtain⟨q,hq,rfl⟩:=List.mem_map.1 hp
  rcases aar (ix L a)with ⟨h1,_⟩|⟨i,h0,hi,h2⟩
  ·rw[h1]at hq;simp at hq
  ·rw[h2,List.mem_singleton]at hq
   rw[hq]
   exact(ge.1 ((hm _).1 (bj (show i - 1<(ix L a).length by omega)))).2.1
 ·obtain⟨q,hq,rfl⟩:=List.mem_map.1 hp
  obtain⟨c,_,hc⟩:=List.mem_flatMap.1 hq
  split at hc
  rotate_left
  ·simp at hc
  rename_i hl
  rw[List.mem_singleton]at hc
  rw[hc]
  exact(ge.1 ((hm _).1 (a3d (bj (show 0<(ay (ix L a) c).length by omega))))).2.1
theorem amb{L:List Stm}{a:Int}(h:CF L)(hu:UNI L):xa (ix L a)≠[]↔gB L a=true:=by
 obtain⟨_,hm⟩:=ui (a:=a) h
 constructor
 ·intro hne
  unfold xa at hne
  split at hne
  ·by_cases h1:fa (ix L a)=[]
   ·refine aqj h hu fun h2=>hne ?_
    rw[h1,h2]
    rfl
   ·exact(akm h).1 h1
  ·exact absurd rfl hne
 ·intro hg
  have h1:=(akm h).2 hg
  obtain⟨s,s1,t,t1,_,hne⟩:=ame.1 hg
  have hl:1<(ix L a).length:=by
   have m1:=(hm s).2 s1
   have m2:=(hm t).2 t1
   match hM:ix L a,m1,m2 with
   |[],m1,_=>simp at m1
   |[x],m1,m2=>simp at m1 m2;exact absurd (m1.trans m2.symm) hne
   |_::_::_,_,_=>simp
  unfold xa
  rw[if_pos hl]
  intro h2
  obtain⟨h3,_⟩:=List.append_eq_nil_iff.1 h2
  exact h1 (List.map_eq_nil_iff.1 h3)
theorem a40{L:List Stm}(h:CF L)(hu:UNI L):au9 L=eh (gB L) 64:=by
 have hmap:(lq L 64).map (fun p=>p.2.1.au)=(List.range 64).flatMap fun a:Nat=>List.replicate (xa (ix L a)).length (a:Int):=by
  unfold lq
  rw[List.map_flatMap]
  congr 1
  funext a
  refine List.eq_replicate_iff.2 ⟨by rw[List.length_map],fun b hb=> ?_⟩
  obtain⟨p,hp,rfl⟩:=List.mem_map.1 hb
  exact a2p h p hp
 have hmem: ∀k:Int,k∈(lq L 64).map (fun p=>p.2.1.au)↔(0≤k∧k<64)∧gB L k=true:=fun k=>by
  rw[hmap,List.mem_flatMap]
  constructor
  ·rintro⟨a,ha,hk⟩
   obtain⟨h1,rfl⟩:=List.mem_replicate.1 hk
   have ha:=List.mem_range.1 ha
   exact⟨by omega,(amb h hu).1 fun h2=>h1 (by rw[h2];rfl)⟩
  ·rintro⟨⟨h1,h2⟩,h3⟩
   obtain⟨a,rfl⟩: ∃a:Nat,k=a:=⟨k.toNat,by omega⟩
   refine⟨a,List.mem_range.2 (by omega),List.mem_replicate.2 ⟨fun h4=> ?_,rfl⟩⟩
   exact(amb h hu).2 h3 (List.eq_nil_of_length_eq_zero h4)
 have hsort:((lq L 64).map fun p=>p.2.1.au).Pairwise fun x y=>decide (x≤y)=true:=by
  rw[hmap,List.pairwise_flatMap]
  refine⟨fun a _=>List.pairwise_replicate.2 (.inr (by simp)),?_⟩
  refine List.Pairwise.imp ?_ (List.pairwise_lt_range (n:=64))
  intro a b hab x hx y hy
  rw[(List.mem_replicate.1 hx).2,(List.mem_replicate.1 hy).2]
  simp
  omega
 have hs:srt ((lq L 64).map fun p=>p.2.1.au)=(lq L 64).map fun p=>p.2.1.au:=List.mergeSort_of_pairwise hsort
 unfold au9
 rw[←hs,a02 _ (fun x hx=>((hmem x).1 hx).1)]
 unfold eh
 refine List.filter_congr fun k hk=> ?_
 obtain⟨a,ha,rfl⟩:=List.mem_map.1 hk
 have ha:=List.mem_range.1 ha
 rw[Bool.eq_iff_iff,decide_eq_true_iff,hmem]
 exact⟨fun h=>h.2,fun h=>⟨by omega,h⟩⟩
theorem alr(a b:Stm):Den Tryz.prog 150 [.agg (sm a),.agg (sm b)] [] (.int .i64 (apm a b)) [] []:=by
 refine aa Tryz.mixed Tryz.func150 rfl Tryz.call150 Tryz.ntmps150 (congrArg Array.toList Tryz.results150) (by simp) (by kernel_rfl) [] (exts:=[]) rfl rfl ?_
 simp only[go_sem]
 refine call (dp a.nu b.nu) [] ?_
 simp only[go_sem]
 refine call (yq a.sd b.sd) [] ?_
 simp only[go_sem]
 refine call (um [fu a.nu b.nu,Lib.compareBytes a.sd b.sd] (by simp[big])) [] ?_
 simp only[go_sem]
 refine⟨ag (by kernel_rfl),?_⟩
 simp only[orL,apm,or2]
 repeat' split
 all_goals simp_all
theorem aip(a b:Stm):Den Tryz.prog 154 [.agg (sm a),.agg (sm b),.ptr 1000000 0] [.cells [.fn 150 []]] (.bool (dl a b)) [] [.cells [.fn 150 []]]:=by
 refine aa Tryz.mixed Tryz.func154 rfl Tryz.call154 Tryz.ntmps154 (congrArg Array.toList Tryz.results154) (by simp) (by kernel_rfl) [] (exts:=[1000000]) rfl rfl ?_
 simp only[go_sem]
 refine call (alr a b) [] ?_
 simp only[go_sem]
 rfl
theorem avm{L:List Stm}{a:Int}(l:List Stm)(hl:l.length<4611686018427387904)(h:CF L)(hm: ∀s∈l,s∈pg L a):
  Den Tryz.prog 152 [.os 1000000 l.length,.fn 150 []] [.arr 100 13 false (l.map sm)] (.tup []) [] [.arr 100 13 false ((aqv l).map sm)]:=by
 refine uc (F:=sm) (cf:=apm) (enters_of Tryz.func152 (by kernel_rfl) rfl) hl
  (fun m enc hk h1 c hO b cap d w hcmp hH hblk hsz=>AnyQ.slices_SortFunc Tryz.sortStm 13 (fun _=>by kernel_rfl) (fun _=>by kernel_rfl) enc hk h1 c hO _ _ b 0 cap d w (enters_of Tryz.func150 (by kernel_rfl) rfl) hcmp hH hblk hsz)
  (fun p cap fv w=>AnyF.slices_SortFunc_none Tryz.sortStm p cap fv w)
  (fun x hx y hy=>alr x y) (fun x _=>to_N.irr (x.nu,x.sd)) (fun x _ y _ z _=>to_N.tr (x.nu,x.sd) (y.nu,y.sd) (z.nu,z.sd)) (fun x _ y _ z _=>to_N.nt (x.nu,x.sd) (y.nu,y.sd) (z.nu,z.sd)) (fun x hx y hy h1 h2=> ?_) (List.mergeSort_perm _ _) ?_
 ·exact(bdh (a:=a) h).tri x y (hm x hx) (hm y hy) (decide_eq_false h1) (decide_eq_false h2)
 ·exact(at8 l).imp fun h=>of_decide_eq_false h
theorem ads(l:List Stm)(hl:big l.length)(hd: ∀i,0<i→i<l.length→dl (el l i) (el l (i - 1))=false):
  Den Tryz.prog 153 [.os 1000000 l.length,.fn 154 [.ptr 1000001 0]] [.arr 100 13 false (l.map sm),.cells [.fn 150 []]] (.os 1000000 l.length) [] [.arr 100 13 false (l.map sm),.cells [.fn 150 []]]:=by
 refine aa Tryz.mixed Tryz.func153 rfl Tryz.call153 Tryz.ntmps153 (congrArg Array.toList Tryz.results153) (by simp) (by kernel_rfl) [] (exts:=[1000000,1000001]) rfl rfl ?_
 by_cases h2:(l.length:Int)<2
 ·simp only[go_sem,h2]
 simp only[go_sem,h2]
 refine loop Tryz.mixed 1 (fun i:Nat=>[(0,.os 1000000 l.length),(1,.fn 154 [.ptr 1000001 0]),(5,.int .i64 i)]) (fun _=>[(1000000,.arr 100 13 false (l.map sm)),(1000001,.cells [.fn 150 []])]) (fun i=>1≤i∧i≤l.length) (fun i=>l.length - i) (by kernel_rfl) ⟨Nat.le_refl _,by omega⟩ ?_ ?_
 ·simp only[go_sem]
 ·rintro i ⟨hi0,hi⟩
  by_cases hlt:i<l.length
  ·have h1:(i:Int)<(l.length:Int):=by omega
   obtain⟨j,rfl⟩: ∃j,i=j+1:=⟨i - 1,by omega⟩
   have hw:IntKind.i64.wrap (((j+1:Nat):Int) - 1)=(j:Int):=by rw[ae]<;>omega
   have hj:j<l.length:=by omega
   simp only[go_sem,h1,hlt,hw,hj]
   have hne:=hd (j+1) (by omega) hlt
   rw[Nat.add_sub_cancel]at hne
   refine call (aip (el l (j+1)) (el l j)) [1000001] ?_
   simp only[go_sem,hne]
   refine⟨ag (by kernel_rfl),j+1+1,⟨⟨by omega,by omega⟩,by omega⟩,?_⟩
   rw[ae]<;>omega
  ·have h1: ¬(i:Int)<(l.length:Int):=by omega
   simp only[go_sem,h1]
theorem aai(l:List Stm)(hl:big l.length){k0:Nat}(h1:0<k0)(h2:k0<l.length)(h3:dl (el l k0) (el l (k0 - 1))=true)(h4: ∀j,0<j→j<k0→dl (el l j) (el l (j - 1))=false):
  Den Tryz.prog 153 [.os 1000000 l.length,.fn 154 [.ptr 1000001 0]] [.arr 100 13 false (l.map sm),.cells [.fn 150 []]] (.vs ((kp dl l l.length).map sm)) [] [.arr 100 13 true ((kp dl l l.length).map sm++List.replicate (l.length - (kp dl l l.length).length) zS),.cells [.fn 150 []]]:=by
 refine aa Tryz.mixed Tryz.func153 rfl Tryz.call153 Tryz.ntmps153 (congrArg Array.toList Tryz.results153) (by simp) (by kernel_rfl) [] (exts:=[1000000,1000001]) rfl rfl ?_
 have hlen: ¬(l.length:Int)<2:=by omega
 simp only[go_sem,hlen]
 refine qq Tryz.mixed 1 (fun i:Nat=>[(0,.os 1000000 l.length),(1,.fn 154 [.ptr 1000001 0]),(5,.int .i64 i)]) (fun _=>[(1000000,.arh 100 13 (l.map sm)),(1000001,.cells [.fn 150 []])]) (fun i=>1≤i∧i≤k0) (fun i=>k0 - i) (by kernel_rfl) ⟨Nat.le_refl _,by omega⟩ ?_ ?_
 ·refine Cv.trans (Cv.opn (n:=1000000) (by rfl)) (Cv.wk ?_)
  have hin:=aw [1000000,1000001] sm (fun _=>rfl) l
  simp only[go_sem,hin]
 ·rintro i ⟨hi0,hi⟩
  have hlt:i<l.length:=by omega
  have g1:(i:Int)<(l.length:Int):=by omega
  obtain⟨j,rfl⟩: ∃j,i=j+1:=⟨i - 1,by omega⟩
  have hw:IntKind.i64.wrap (((j+1:Nat):Int) - 1)=(j:Int):=by rw[ae]<;>omega
  have hj:j<l.length:=by omega
  have cq:=aip (el l (j+1)) (el l j)
  by_cases hk:j+1<k0
  ·have hne:=h4 (j+1) (by omega) hk
   rw[Nat.add_sub_cancel]at hne
   rw[hne]at cq
   simp only[go_sem,g1,hlt,hw,hj]
   refine call cq [1000001] ?_
   simp only[go_sem]
   refine⟨ag (by kernel_rfl),j+1+1,⟨⟨by omega,by omega⟩,by omega⟩,Cv.wk ?_⟩
   have hin:=aw [1000000,1000001] sm (fun _=>rfl) l
   simp only[go_sem,hin]
   rw[ae]<;>omega
  ·obtain rfl:k0=j+1:=by omega
   rw[Nat.add_sub_cancel]at h3
   rw[h3]at cq
   simp only[go_sem,g1,hlt,hw,hj]
   refine call cq [1000001] ?_
   simp only[go_sem,g1,hlt,hw,hj]
   refine⟨ag (by kernel_rfl),?_⟩
   have kf:kp dl l (j+1+1)=l.take (j+1):=by
    have:=u3 dl l (j+1) (by omega) h4
    rw[kp,if_neg (fun h=>by rcases h with h|h;omega;rw[Nat.add_sub_cancel,h3]at h;cases h),this,List.append_nil]
   refine qq Tryz.mixed (0,l) (fun s:Nat×List Stm=>[(0,.os 1000000 l.length),(1,.fn 154 [.ptr 1000001 0]),(5,.int .i64 (kp dl l (j+1+(s.1+1))).length),(6,.osl 1000000 l.length (j+1)),(7,.int .i64 ((s.1+1:Nat):Int))]) (fun s=>[(1000000,.arh 100 13 (s.2.map sm)),(1000001,.cells [.fn 150 []])])
    (fun s=>j+1+(s.1+1)≤l.length∧s.2.length=l.length∧(kp dl l (j+1+(s.1+1))).length<j+1+(s.1+1)∧s.2.take (kp dl l (j+1+(s.1+1))).length=kp dl l (j+1+(s.1+1))∧∀a,(kp dl l (j+1+(s.1+1))).length≤a→el s.2 a=el l a) (fun s=>l.length - s.1) (by kernel_rfl) ?_ ?_ ?_
   ·have hlt':(l.take (j+1)).length=j+1:=by simp;omega
    refine⟨by simp only;omega,rfl,?_,?_,fun a _=>rfl⟩
    ·show(kp dl l (j+1+1)).length<j+1+1
     rw[kf,hlt'];omega
    ·show l.take (kp dl l (j+1+1)).length=kp dl l (j+1+1)
     rw[kf,hlt']
   ·refine Cv.wk ?_
    have hlt':(l.take (j+1)).length=j+1:=by simp;omega
    have hin:=aw [1000000,1000001] sm (fun _=>rfl) l
    simp only[go_sem,hin,kf,hlt']
   ·rintro⟨n,L⟩ ⟨i1,i2,i3,i4,i5⟩
    simp only at i1 i2 i3 i4 i5
    simp only
    have ks:kp dl l (j+1+(n+1)+1)=kp dl l (j+1+(n+1))++if dl (el l (j+1+(n+1))) (el l (j+1+n))=false then [el l (j+1+(n+1))]else []:=by
     rw[kp]
     have h0: ¬j+1+(n+1)=0:=by omega
     simp only[h0,false_or]
     rfl
    have k0p:0<(kp dl l (j+1+(n+1))).length:=avx _ _ (by omega)
    generalize hO:kp dl l (j+1+(n+1))=o at*
    by_cases hm:j+1+(n+1)<l.length
    ·have g2:((n+1:Nat):Int)<((l.length - (j+1):Nat):Int):=by omega
     have g3:((j+1:Nat):Int)+((n+1:Nat):Int)<(l.length:Int):=by omega
     have g4:((j+1:Nat):Int)+(n:Int)<(l.length:Int):=by omega
     have g5:IntKind.i64.wrap (((n+1:Nat):Int) - 1)=(n:Int):=by rw[ae]<;>omega
     have g6:j+1+(n+1)<L.length:=by omega
     have g7:j+1+n<L.length:=by omega
     have e1:el L (j+1+(n+1))=el l (j+1+(n+1)):=i5 _ (by omega)
     have e2:el L (j+1+n)=el l (j+1+n):=i5 _ (by omega)
     have ks':kp dl l (j+1+((n+1)+1))=o++if dl (el l (j+1+(n+1))) (el l (j+1+n))=false then [el l (j+1+(n+1))]else []:=ks
     have cq2:=aip (el l (j+1+(n+1))) (el l (j+1+n))
     have hm2:j+1+n<l.length:=by omega
     cases hsame:dl (el l (j+1+(n+1))) (el l (j+1+n))with
     |true=>
      rw[hsame,if_neg (by simp),List.append_nil]at ks'
      rw[hsame]at cq2
      simp only[go_sem,g2,g3,g4,g5,g6,g7,i2,e1,e2,hm,hm2]
      refine call cq2 [1000001] ?_
      simp only[go_sem,g2,g3,g4,g5,g6,g7,i2,e1,e2,hm,hm2]
      refine⟨ag (by kernel_rfl),(n+1,L),⟨⟨by simp only;omega,i2,?_,?_,fun a ha=>i5 a ?_⟩,by simp only;omega⟩,Cv.wk ?_⟩
      ·show(kp dl l (j+1+((n+1)+1))).length<_
       rw[ks'];simp only;omega
      ·show L.take (kp dl l (j+1+((n+1)+1))).length=_
       rw[ks'];exact i4
      ·have ha':(kp dl l (j+1+((n+1)+1))).length≤a:=ha
       rwa [ks']at ha'
      ·have hin:=aw [1000000,1000001] sm (fun _=>rfl) L
       simp only[go_sem,ks',hin]
       rw[ae]<;>omega
     |false=>
      rw[hsame,if_pos rfl]at ks'
      rw[hsame]at cq2
      have g8:o.length<l.length:=by omega
      simp only[go_sem,g2,g3,g4,g5,g6,g7,g8,i2,e1,e2,hm,hm2]
      refine call cq2 [1000001] ?_
      simp only[go_sem,g2,g3,g4,g5,g6,g7,g8,i2,e1,e2,hm,hm2]
      refine⟨ag (by kernel_rfl),(n+1,L.set o.length (el l (j+1+(n+1)))),⟨⟨by simp only;omega,by simp only[List.length_set];exact i2,?_,?_,fun a ha=> ?_⟩,by simp only;omega⟩,Cv.wk ?_⟩
      ·show(kp dl l (j+1+((n+1)+1))).length<_
       rw[ks',List.length_append,List.length_singleton];simp only;omega
      ·show(L.set o.length (el l (j+1+(n+1)))).take (kp dl l (j+1+((n+1)+1))).length=kp dl l (j+1+((n+1)+1))
       rw[ks'];exact pj (by omega) i4
      ·have ha':(kp dl l (j+1+((n+1)+1))).length≤a:=ha
       rw[ks',List.length_append,List.length_singleton]at ha'
       show el (L.set o.length _) a=_
       rw[ad7 (by omega)]
       exact i5 a (by omega)
      ·have hin:=aw [1000000,1000001] sm (fun _=>rfl) (L.set o.length (el l (j+1+(n+1))))
       have hset:(L.map sm).set o.length [PV.int IntKind.i64 (el l (j+1+(n+1))).au,PV.int IntKind.i64 (el l (j+1+(n+1))).nu,PV.str (el l (j+1+(n+1))).prev,PV.int IntKind.i64 (el l (j+1+(n+1))).ti,PV.int IntKind.i64 (el l (j+1+(n+1))).kd,PV.int IntKind.i64 (el l (j+1+(n+1))).a,PV.int IntKind.i64 (el l (j+1+(n+1))).b,PV.int IntKind.i64 (el l (j+1+(n+1))).c,PV.vs (List.map Am.i1 (el l (j+1+(n+1))).li),PV.vs (List.map pn (el l (j+1+(n+1))).pins),PV.str (el l (j+1+(n+1))).body,PV.int IntKind.i64 (el l (j+1+(n+1))).sk,PV.str (el l (j+1+(n+1))).sd]=(L.set o.length (el l (j+1+(n+1)))).map sm:=by rw[List.map_set];rfl
       have hol:(o++[el l (j+1+(n+1))]).length=o.length+1:=by simp
       simp only[go_sem,ks',hset,hin,hol]
       exact⟨by rw[ae]<;>omega,by rw[ae]<;>omega⟩
    ·have hend:j+1+(n+1)=l.length:=by omega
     have g2: ¬((n+1:Nat):Int)<((l.length - (j+1):Nat):Int):=by omega
     have g3:(o.length:Int)<(l.length:Int):=by omega
     rw[hend]at hO
     rw[hO]
     have htk:(L.map sm).take o.length=o.map sm:=by rw[←List.map_take,i4]
     have hpu: ∀σ,iu σ (o.map sm++List.replicate (l.length - o.length) zS)=some (o.map sm++List.replicate (l.length - o.length) zS,[]):=fun σ=>kz fun x hx=>by
      rcases List.mem_append.1 hx with hx|hx
      ·obtain⟨c,_,rfl⟩:=List.mem_map.1 hx
       rfl
      ·rw[List.eq_of_mem_replicate hx]
       rfl
     have g4:(o.length:Int)≤(l.length:Int):=by omega
     have g5:(o.map sm++List.replicate (l.length - o.length) zS).length=l.length:=by simp;omega
     have g6:(o.map sm++List.replicate (l.length - o.length) zS).take o.length=o.map sm:=by simp
     simp only[go_sem,g2,g3,i2,htk]
     refine ku _ _ ?_
     have g7:o.length<l.length:=by omega
     simp only[go_sem,g2,g3,i2,htk,g7,←bci,hpu,g4,g5,g6]
     refine ahh _ ?_
     simp only[go_sem]
theorem aa1(l:List Stm)(hl:big l.length):
  ∃new,new.length=l.length∧Den Tryz.prog 153 [.os 1000000 l.length,.fn 154 [.ptr 1000001 0]] [.arr 100 13 false (l.map sm),.cells [.fn 150 []]] (.vs ((kp dl l l.length).map sm)) [] [.arr 100 13 true new,.cells [.fn 150 []]]:=by
 rcases tg dl l l.length (Nat.le_refl _)with h|⟨k0,h1,h2,h3,h4⟩
 ·rw[aje _ _ h]
  exact⟨_,by simp,(ads l hl h).vsE (by simp)⟩
 ·exact⟨_,by have:=zn dl l l.length;simp;omega,aai l hl h1 h2 h3 h4⟩
def ap8(L:List Stm)(a:Int)(i:Nat):List Stm:=pg (L.take i) a
theorem atg{L:List Stm}{a:Int}{i:Nat}(h:i<L.length):ap8 L a (i+1)=ap8 L a i++(if(decide ((el L i).au=a)&&l9 (el L i))=true then [el L i]else []):=by
 unfold ap8 pg
 rw[bm h,List.filter_append]
 congr 1
 simp only[List.filter_cons,List.filter_nil]
theorem a05(L:List Stm)(a:Int)(i:Nat):(ap8 L a i).length≤L.length:=by
 have h1:=ack (L.take i) a
 have h2:(L.take i).length≤L.length:=by rw[List.length_take];omega
 unfold ap8
 omega
theorem a1b(L:List Stm)(a:Int):ap8 L a L.length=pg L a:=by rw[ap8,List.take_length]
theorem a5g(L:List Stm)(a:Int)(hl:L.length≤1000000)(hs: ∀s∈L,ab3 s)(h:CF L):Den Tryz.prog 113 [.vs (L.map sm),.int .i64 a] [] (.vs ((ix L a).map sm)) [] []:=by
 refine aa Tryz.mixed Tryz.func113 rfl Tryz.call113 Tryz.ntmps113 (congrArg Array.toList Tryz.results113) (by simp) (by kernel_rfl) [] (exts:=[]) rfl rfl ?_
 simp only[go_sem]
 refine cy 5 99 100 13 false ?_ ?_ ?_ (by omega)
 ·refine loop Tryz.mixed 0 (fun i:Nat=>[(1,.int .i64 a),(5,.os 99 (ap8 L a i).length),(9,.vs (L.map sm)),(10,.int .i64 L.length),(11,.int .i64 i)]) (fun i=>[(99,.arr 100 13 false ((ap8 L a i).map sm))]) (fun i=>i≤L.length) (fun i=>L.length - i) (by kernel_rfl) (Nat.zero_le _) ?_ ?_
  ·simp only[go_sem]
   exact⟨rfl,rfl⟩
  ·intro i hi
   by_cases hlt:i<L.length
   ·have h1:(i:Int)<(L.length:Int):=by omega
    have hsu:=atg (a:=a) hlt
    have hln:=a05 L a i
    have hbs:=hs _ (bj hlt)
    have c1:=rd (el L i) hbs
    have c2:=fun h:aj (el L i)=0=>qm (el L i) (agq h)
    rw[jo]at c1 c2
    have no:(decide ((el L i).au=a)&&l9 (el L i))=false→ap8 L a (i+1)=ap8 L a i:=fun hh=>by rw[hsu,hh,if_neg (by simp),List.append_nil]
    by_cases k1:a=(el L i).au
    rotate_left
    ·have k1': ¬(el L i).au=a:=fun e=>k1 e.symm
     have n0:=no (by simp[k1'])
     simp only[go_sem,h1,hlt,k1,k1']
     refine⟨i+1,⟨by omega,by omega⟩,?_⟩
     rw[n0]
     exact⟨⟨rfl,by rw[ae]<;>omega⟩,rfl⟩
    have kt:=eq_true k1
    have kt':=eq_true k1.symm
    simp only[go_sem,h1,hlt,kt,kt']
    refine call c1 [] ?_
    by_cases k2:aj (el L i)=0
    rotate_left
    ·have n0:=no (by simp[l9,k2])
     simp only[go_sem,k2,kt,kt']
     refine⟨i+1,⟨by omega,by omega⟩,?_⟩
     rw[n0]
     exact⟨⟨rfl,by rw[ae]<;>omega⟩,rfl⟩
    simp only[go_sem,k2,kt,kt']
    refine call (c2 k2) [] ?_
    by_cases k3:(el L i).sk=(el L i).au∧(el L i).sd=dig (el L i)
    rotate_left
    ·have n0:=no (by simp[l9,k3])
     simp only[go_sem,k3,k2,kt,kt']
     refine⟨i+1,⟨by omega,by omega⟩,?_⟩
     rw[n0]
     exact⟨⟨rfl,by rw[ae]<;>omega⟩,rfl⟩
    have y0:ap8 L a (i+1)=ap8 L a i++[el L i]:=by rw[hsu,if_pos (by simp[l9,←k1,k2];exact⟨by rw[k1];exact k3.1,k3.2⟩)]
    simp only[go_sem,k3,k2,kt,kt']
    refine⟨by omega,i+1,⟨by omega,by omega⟩,?_⟩
    rw[y0]
    exact⟨⟨by simp,by rw[ae]<;>omega⟩,by simp[jo,k3]⟩
   ·have h1: ¬(i:Int)<(L.length:Int):=by omega
    have:i=L.length:=by omega
    subst this
    simp only[go_sem,h1]
    have hfl:=ack L a
    rw[a1b]
    refine call (avm (pg L a) (by omega) h fun s hs=>hs) [99] ?_
    have hsl:(aqv (pg L a)).length=(pg L a).length:=List.length_mergeSort _
    simp only[go_sem,hsl]
    obtain⟨new,hnl,hcc⟩:=aa1 (aqv (pg L a)) (by simp only[big];omega)
    rw[hsl]at hcc hnl
    refine⟨Nat.le_refl _,?_⟩
    have hol:ix L a=kp dl (aqv (pg L a)) (aqv (pg L a)).length:=rfl
    rw[hol,hsl]
    refine call hcc [99,8] ?_
    simp only[go_sem,hsl]
    omega
 ·simp only[go_sem]
 ·simp only[go_sem]
def pf(p:Int×Stm×Stm):List PV:= .int .i64 p.1::(sm p.2.1++sm p.2.2)
theorem a4s(p:Int×Stm×Stm):pf p=[.int .i64 p.1,.int .i64 p.2.1.au,.int .i64 p.2.1.nu,.str p.2.1.prev,.int .i64 p.2.1.ti,.int .i64 p.2.1.kd,.int .i64 p.2.1.a,.int .i64 p.2.1.b,.int .i64 p.2.1.c,.vs (p.2.1.li.map i1),.vs (p.2.1.pins.map pn),.str p.2.1.body,.int .i64 p.2.1.sk,.str p.2.1.sd,
 .int .i64 p.2.2.au,.int .i64 p.2.2.nu,.str p.2.2.prev,.int .i64 p.2.2.ti,.int .i64 p.2.2.kd,.int .i64 p.2.2.a,.int .i64 p.2.2.b,.int .i64 p.2.2.c,.vs (p.2.2.li.map i1),.vs (p.2.2.pins.map pn),.str p.2.2.body,.int .i64 p.2.2.sk,.str p.2.2.sd]:=(rfl)
attribute [go_sem] a4s
theorem aws(M:List Stm)(hl:big M.length):Den Tryz.prog 114 [.vs (M.map sm)] [] (.vs ((pfs 1 (fa M)).map pf)) [] []:=by
 refine aa Tryz.mixed Tryz.func114 rfl Tryz.call114 Tryz.ntmps114 (congrArg Array.toList Tryz.results114) (by simp) (by kernel_rfl) [] (exts:=[]) rfl rfl ?_
 simp only[go_sem]
 refine loop Tryz.mixed 1 (fun i:Nat=>[(0,.vs (M.map sm)),(3,.int .i64 i)]) (fun _=>[]) (fun i=>1≤i∧(i≤M.length∨i=1)∧∀j,j<i→ada M j=false) (fun i=>M.length - i) (by kernel_rfl) ⟨Nat.le_refl _,.inr rfl,fun j hj=>by rw[show j=0 by omega];rfl⟩ ?_ ?_
 ·simp only[go_sem]
 ·rintro i ⟨h0,hi,hp⟩
  by_cases hlt:i<M.length
  ·have h1:(i:Int)<(M.length:Int):=by omega
   obtain⟨j,rfl⟩: ∃j,i=j+1:=⟨i - 1,by omega⟩
   have hw:IntKind.i64.wrap (((j+1:Nat):Int) - 1)=(j:Int):=by rw[ae]<;>omega
   have hj:j<M.length:=by omega
   have hat:=az1 hlt (M:=M)
   rw[Nat.add_sub_cancel]at hat
   by_cases hn:(el M (j+1)).nu=(el M j).nu
   ·have hq:=hat (by simp[ada,hn]) hp
    rw[hq]
    simp only[go_sem,h1,hlt,hw,hj,hn,pfs]
    exact⟨ag (by kernel_rfl),ag (by kernel_rfl)⟩
   ·simp only[go_sem,h1,hlt,hw,hj,hn]
    refine⟨ag (by kernel_rfl),j+1+1,⟨⟨by omega,by omega,fun k hk=> ?_⟩,by omega⟩,by rw[ae]<;>omega⟩
    by_cases hkj:k=j+1
    ·subst hkj
     simp[ada,hn]
    ·exact hp k (by omega)
  ·have h1: ¬(i:Int)<(M.length:Int):=by omega
   rw[apy fun j hj=>hp j (by omega)]
   simp only[go_sem,h1,pfs,List.map_nil]
theorem a29(v:Vt)(s:Stm)(hs:ab3 s)(hv:xq v.x):Den Tryz.prog 219 [.agg (sm s),.ptr 1000000 0] [.cells (vt7 v)] (.bool (ayc v s)) [] [.cells (vt7 v)]:=by
 refine aa Tryz.mixed Tryz.func219 rfl Tryz.call219 Tryz.ntmps219 (congrArg Array.toList Tryz.results219) (by simp) (by kernel_rfl) [] (exts:=[1000000]) rfl rfl ?_
 have c1:=aum s hs
 have hb:xq (ofE s).1.x:=my (abc (s:=s))
 have hm:ayc v s=(decide ((ofE s).2=0)&&(br (ofE s).1.c v.c&&decide (m8 (ofE s).1.x v.x=0))):=rfl
 have hce:br (ofE s).1.c v.c=true↔((ofE s).1.c.ep=v.c.ep∧(ofE s).1.c.kd=v.c.kd∧(ofE s).1.c.su=v.c.su∧(ofE s).1.c.ro=v.c.ro):=by
  generalize (ofE s).1.c=a
  cases a
  cases hv:v.c
  simp[br]
 have c2:=qj (ofE s).1.x v.x hb.1 hb.2 hv.1 hv.2
 rw[jo]at c1
 generalize ayc v s=m at*
 generalize ofE s=W at*
 obtain⟨w,e⟩:=W
 dsimp only at c1 c2 hm hce
 simp only[go_sem]
 refine call c1 [] ?_
 by_cases he:e=0
 rotate_left
 ·rw[decide_eq_false he,Bool.false_and]at hm
  subst hm
  simp only[go_sem,he]
 rw[decide_eq_true he,Bool.true_and]at hm
 cases hsc:br w.c v.c
 ·rw[hsc,Bool.false_and]at hm
  subst hm
  have hn: ¬(w.c.ep=v.c.ep∧w.c.kd=v.c.kd∧w.c.su=v.c.su∧w.c.ro=v.c.ro):=fun h=>by rw[hce.2 h]at hsc;cases hsc
  simp only[go_sem,he,hn]
  done
 ·rw[hsc,Bool.true_and]at hm
  have hy:=hce.1 hsc
  simp only[go_sem,he,hy]
  refine call c2 [] ?_
  simp only[go_sem]
  exact hm.symm
theorem a1x(v:Vt)(hv:xq v.x)(l:List Stm)(hb:big l.length)(hs: ∀s∈l,ab3 s):Den Tryz.prog 218 [.vs (l.map sm),.fn 219 [.ptr 1000000 0]] [.cells (vt7 v)] (.int .i64 (a36 (ayc v) l)) [] [.cells (vt7 v)]:=by
 refine aa Tryz.mixed Tryz.func218 rfl Tryz.call218 Tryz.ntmps218 (congrArg Array.toList Tryz.results218) (by simp) (by kernel_rfl) [] (exts:=[1000000]) rfl rfl ?_
 simp only[go_sem]
 refine loop Tryz.mixed 0 (fun i:Nat=>[(0,.vs (l.map sm)),(1,.fn 219 [.ptr 1000000 0]),(7,.int .i64 l.length),(8,.int .i64 i)]) (fun i=>[(1000000,.cells (vt7 v))]) (fun i=>i≤l.length∧∀j,j<i→ayc v (el l j)=false) (fun i=>l.length - i) (by kernel_rfl) ?_ ?_ ?_
 ·simp
 ·simp only[go_sem]
 ·rintro i ⟨hi,hp⟩
  by_cases hi':i<l.length
  ·have hlt:(i:Int)<(l.length:Int):=by omega
   have cD:=a29 v (el l i) (hs _ (bj hi')) hv
   rw[jo,ak9]at cD
   simp only[go_sem,hlt,hi']
   refine call cD [1000000] ?_
   cases e:ayc v (el l i)
   ·simp only[go_sem]
    refine⟨i+1,⟨⟨by omega,fun j hj=> ?_⟩,by omega⟩,by rw[ae]<;>omega⟩
    by_cases hji:j=i
    ·rw[hji];exact e
    ·exact hp j (by omega)
   ·simp only[go_sem]
    rw[a7l hi' e hp]
  ·have hf: ¬((i:Int)<(l.length:Int)):=by omega
   have:i=l.length:=by omega
   subst this
   simp only[go_sem,hf]
   rw[av9 hp]
theorem afm(M:List Stm)(v:Vt)(hl:big M.length)(hs: ∀s∈M,ab3 s)(hv:xq v.x)(ha:M.any (ayc v)=true):Den Tryz.prog 155 [.vs (M.map sm),.agg (vt7 v)] [] (.agg (sm (aor M v))) [] []:=by
 refine aa Tryz.mixed Tryz.func155 rfl Tryz.call155 Tryz.ntmps155 (congrArg Array.toList Tryz.results155) (by simp) (by kernel_rfl) [] (exts:=[]) rfl rfl ?_
 obtain⟨i,h1,h2,_⟩:=axm ha
 have c1:=a1x v hv M hl hs
 have hx:aor M v=el M i:=by rw[aor,h1,Int.toNat_natCast]
 rw[h1,ak9]at c1
 rw[hx]
 simp only[go_sem]
 refine call c1 [3] ?_
 simp only[go_sem,h2]
 done
theorem aez{M:List Stm}{K:List Cs}{i:Nat}(h:i<K.length)(f:Cs→List (Stm×Stm)):(K.take (i+1)).flatMap f=(K.take i).flatMap f++f (el K i):=by
 rw[bm h,List.flatMap_append]
 simp
theorem y7(L:List Stm):(jr L).length≤L.length:=by
 have h1:=zn br (aqu (wh L L.length)) (aqu (wh L L.length)).length
 have h2:(aqu (wh L L.length)).length=(wh L L.length).length:=List.length_mergeSort _
 have h3:(wh L L.length).length≤L.length:=by
  unfold wh
  rw[List.length_map]
  refine Nat.le_trans (List.length_filter_le _ _) ?_
  rw[List.length_take];omega
 unfold jr
 omega
def dbl(M:List Stm)(c:Cs):List (Stm×Stm):=if 1<(ay M c).length then [(aor M (el (ay M c) 0),aor M (el (ay M c) 1))]else []
theorem akh(M:List Stm):aev M=(jr M).flatMap (dbl M):=rfl
theorem ahj(M:List Stm)(K:List Cs): ∀i,((K.take i).flatMap (dbl M)).length≤i
 |0=>by simp
 |i+1=>by
  have ih:=ahj M K i
  by_cases h:i<K.length
  ·rw[aez h (M:=M),List.length_append]
   have:(dbl M (el K i)).length≤1:=by
    unfold dbl
    split<;>simp
   omega
  ·rw[List.take_of_length_le (by omega)]
   rw[List.take_of_length_le (by omega)]at ih
   omega
theorem aj3(M:List Stm)(hl:M.length≤1000000)(hs: ∀s∈M,ab3 s):Den Tryz.prog 115 [.vs (M.map sm)] [] (.vs ((pfs 2 (aev M)).map pf)) [] []:=by
 refine aa Tryz.mixed Tryz.func115 rfl Tryz.call115 Tryz.ntmps115 (congrArg Array.toList Tryz.results115) (by simp) (by kernel_rfl) [] (exts:=[]) rfl rfl ?_
 have c1:=yl M hl hs
 have hKl:=y7 M
 have cv:=fun c:Cs=>yp M c hl hs
 rw[akh]
 have hfa:=fun(c:Cs) (v:Vt) (h:v∈ay M c)=>asq h
 have hvb:=fun(c:Cs) (v:Vt) (h:v∈ay M c)=>my (pa v h).1
 generalize jr M=K at*
 simp only[go_sem]
 refine call c1 [] ?_
 simp only[go_sem]
 have hd0: ∀i,((pfs 2 ((K.take i).flatMap (dbl M)))).length≤i:=fun i=>by rw[pfs,List.length_map];exact ahj M K i
 refine cy 3 99 138 27 false ?_ ?_ ?_ (by omega)
 ·refine loop Tryz.mixed 0 (fun i:Nat=>[(0,.vs (M.map sm)),(3,.os 99 (pfs 2 ((K.take i).flatMap (dbl M))).length),(8,.vs (K.map cs)),(9,.int .i64 K.length),(10,.int .i64 i)]) (fun i=>[(99,.arr 138 27 false ((pfs 2 ((K.take i).flatMap (dbl M))).map pf))]) (fun i=>i≤K.length) (fun i=>K.length - i) (by kernel_rfl) (Nat.zero_le _) ?_ ?_
  ·simp only[go_sem,pfs,List.flatMap_nil,List.map_nil,List.length_nil]
   done
  ·intro i hi
   by_cases hlt:i<K.length
   ·have h1:(i:Int)<(K.length:Int):=by omega
    have hsu:=aez (M:=M) hlt (dbl M)
    have hdi:=hd0 i
    have cv:=cv (el K i)
    have hfa:=hfa (el K i)
    have hvb:=hvb (el K i)
    have hde:dbl M (el K i)=if 1<(ay M (el K i)).length then [(aor M (el (ay M (el K i)) 0),aor M (el (ay M (el K i)) 1))]else []:=rfl
    rw[jp]at cv
    generalize ay M (el K i)=V at*
    have hps:pfs 2 ((K.take (i+1)).flatMap (dbl M))=pfs 2 ((K.take i).flatMap (dbl M))++pfs 2 (dbl M (el K i)):=by rw[hsu,pfs,List.map_append];rfl
    generalize pfs 2 ((K.take i).flatMap (dbl M))=o at*
    simp only[go_sem,h1,hlt]
    refine call cv [] ?_
    by_cases h2:1<(V.length:Int)
    ·have hV1:1<V.length:=by omega
     have hV0:0<V.length:=by omega
     have hV0i:(0:Int)<(V.length:Int):=by omega
     rw[if_pos hV1]at hde
     rw[hde]at hps
     have f0:=afm M (el V 0) (by simp only[big];omega) hs (hvb _ (bj hV0)) (hfa _ (bj hV0))
     have f1:=afm M (el V 1) (by simp only[big];omega) hs (hvb _ (bj hV1)) (hfa _ (bj hV1))
     rw[ak9,jo]at f0 f1
     generalize aor M (el V 0)=x0 at*
     generalize aor M (el V 1)=x1 at*
     simp only[go_sem,h2,hV1,hV0,hV0i]
     refine call f0 [] ?_
     simp only[go_sem,h2,hV1,hV0,hV0i]
     refine call f1 [] ?_
     simp only[go_sem]
     refine⟨by omega,ag (by kernel_rfl),i+1,⟨by omega,by omega⟩,?_⟩
     rw[hps]
     exact⟨⟨by simp[pfs],by rw[ae]<;>omega⟩,by simp[pfs,a4s]⟩
    ·rw[if_neg (by omega)]at hde
     rw[hde]at hps
     simp only[go_sem,h2]
     refine⟨i+1,⟨by omega,by omega⟩,?_⟩
     rw[hps]
     simp only[go_sem,pfs,List.map_nil,List.append_nil]
     rw[ae]<;>omega
   ·have h1: ¬(i:Int)<(K.length:Int):=by omega
    have:i=K.length:=by omega
    subst this
    simp only[go_sem,h1,List.take_length]
    done
 ·simp only[go_sem]
 ·simp only[go_sem]
theorem y2(L:List Stm):lq L 0=[]:=rfl
theorem zw(L:List Stm)(i:Nat):lq L (i+1)=lq L i++xa (ix L i):=by
 unfold lq
 rw[List.range_succ,List.flatMap_append]
 simp
theorem ach(k:Int)(l:List (Stm×Stm)):(pfs k l).length=l.length:=by simp[pfs]
theorem zi(M:List Stm):(fa M).length≤1:=by
 unfold fa
 split<;>simp
theorem aex(M:List Stm):(aev M).length≤M.length:=by
 have h1:=ahj M (jr M) (jr M).length
 rw[List.take_length]at h1
 have h2:=y7 M
 rw[akh]
 omega
theorem awa(M:List Stm):(xa M).length≤1+M.length:=by
 have h1:=zi M
 have h2:=aex M
 unfold xa
 split
 ·rw[List.length_append,ach,ach];omega
 ·simp
theorem wz(L:List Stm): ∀i,(lq L i).length≤i*(1+L.length)
 |0=>by simp[y2]
 |i+1=>by
  have h1:=wz L i
  have h2:=awa (ix L i)
  have h3:=ud L i
  rw[zw,List.length_append,Nat.add_mul,Nat.one_mul]
  omega
theorem a0f{L:List Stm}{a:Int}(h:CF L){s:Stm}(hs:s∈ix L a):s∈L:=(ge.1 (((ui (a:=a) h).2 s).1 hs)).1
theorem azq(L:List Stm)(hl:L.length≤900)(hs: ∀s∈L,ab3 s)(h:CF L):Den Tryz.prog 79 [.vs (L.map sm)] [] (.vs ((lq L 64).map pf)) [] []:=by
 refine aa Tryz.mixed Tryz.func79 rfl Tryz.call79 Tryz.ntmps79 (congrArg Array.toList Tryz.results79) (by simp) (by kernel_rfl) [] (exts:=[]) rfl rfl ?_
 have co:=fun a:Nat=>a5g L a (by omega) hs h
 have cf:=fun a:Nat=>aws (ix L a) (by have:=ud L a;simp only[big];omega)
 have cd:=fun a:Nat=>aj3 (ix L a) (by have:=ud L a;omega) fun s hm=>hs s (a0f h hm)
 have hln:=fun a:Nat=>ud L a
 have hsu:=zw L
 have hxl:=wz L
 have hf1:=fun a:Nat=>zi (ix L a)
 have hd1:=fun a:Nat=>aex (ix L a)
 simp only[go_sem]
 refine cy 3 99 138 27 false ?_ ?_ ?_ (by omega)
 ·refine loop Tryz.mixed 0 (fun i:Nat=>[(0,.vs (L.map sm)),(3,.os 99 (lq L i).length),(6,.int .i64 i)]) (fun i=>[(99,.arr 138 27 false ((lq L i).map pf))]) (fun i=>i≤64) (fun i=>64 - i) (by kernel_rfl) (Nat.zero_le _) ?_ ?_
  ·simp only[go_sem,y2,List.map_nil,List.length_nil]
  ·intro i hi
   by_cases hlt:i<64
   ·have h1:(i:Int)<64:=by omega
    have co:=co i
    have cf:=cf i
    have cd:=cd i
    have hln:=hln i
    have hsu:=hsu i
    have hf1:=hf1 i
    have hd1:=hd1 i
    have hxl:=hxl i
    have hmul:i*(1+L.length)≤64*901:=Nat.mul_le_mul (by omega) (by omega)
    have hA:xa (ix L i)=if 1<(ix L i).length then pfs 1 (fa (ix L i))++pfs 2 (aev (ix L i))else []:=rfl
    generalize ix L i=M at*
    have p1:=ach 1 (fa M)
    have p2:=ach 2 (aev M)
    generalize pfs 1 (fa M)=A at*
    generalize pfs 2 (aev M)=B at*
    generalize lq L i=o at*
    simp only[go_sem,h1]
    refine call co [] ?_
    by_cases h2:1<(M.length:Int)
    ·rw[if_pos (by omega)]at hA
     rw[hA]at hsu
     simp only[go_sem,h2]
     refine call cf [] ?_
     simp only[go_sem]
     refine⟨by omega,call cd [] ?_⟩
     simp only[go_sem]
     refine⟨by omega,i+1,⟨by omega,by omega⟩,?_⟩
     rw[hsu]
     exact⟨⟨by simp only[List.length_append];omega,by rw[ae]<;>omega⟩,by simp only[List.map_append,List.append_assoc]⟩
    ·rw[if_neg (by omega)]at hA
     rw[hA,List.append_nil]at hsu
     simp only[go_sem,h2]
     refine⟨i+1,⟨by omega,by omega⟩,?_⟩
     rw[hsu]
     exact⟨⟨rfl,by rw[ae]<;>omega⟩,rfl⟩
   ·have h1: ¬(i:Int)<64:=by omega
    have:i=64:=by omega
    subst this
    simp only[go_sem,h1]
 ·simp only[go_sem]
 ·simp only[go_sem]
theorem akg(p:Int×Stm×Stm):Den Tryz.prog 80 [.agg (pf p)] [] (.int .i64 p.2.1.au) [] []:=by
 refine aa Tryz.mixed Tryz.func80 rfl Tryz.call80 Tryz.ntmps80 (congrArg Array.toList Tryz.results80) (by simp) (by kernel_rfl) [] (exts:=[]) rfl rfl ?_
 simp only[go_sem]
theorem anv(L:List Stm)(hl:L.length≤900)(hs: ∀s∈L,ab3 s)(h:CF L):Den Tryz.prog 48 [.vs (L.map sm)] [] (.vs ((au9 L).map i1)) [] []:=by
 refine aa Tryz.mixed Tryz.func48 rfl Tryz.call48 Tryz.ntmps48 (congrArg Array.toList Tryz.results48) (by simp) (by kernel_rfl) [] (exts:=[]) rfl rfl ?_
 have c1:=azq L hl hs h
 have hxl:=wz L 64
 have hmul:64*(1+L.length)≤64*901:=Nat.mul_le_mul (by omega) (by omega)
 have hg:au9 L=ax6 ((lq L 64).map fun p=>p.2.1.au):=rfl
 rw[hg]
 generalize lq L 64=F at*
 obtain⟨I,hI⟩: ∃I:Nat→List Int,I=fun i=>(F.take i).map fun p=>p.2.1.au:=⟨_,rfl⟩
 have hI0:I 0=[]:=by rw[hI];rfl
 have hsu: ∀i,i<F.length→I (i+1)=I i++[(el F i).2.1.au]:=fun i hi=>by
  rw[hI]
  show(F.take (i+1)).map _=_
  rw[bm hi,List.map_append,List.map_singleton]
 have hln: ∀i,(I i).length≤F.length:=fun i=>by rw[hI];show((F.take i).map _).length≤_;rw[List.length_map,List.length_take];omega
 have hIl:F.map (fun p=>p.2.1.au)=I F.length:=by rw[hI];show _=(F.take F.length).map _;rw[List.take_length]
 rw[hIl]
 clear hI hIl
 simp only[go_sem]
 refine call c1 [] ?_
 simp only[go_sem]
 refine cy 3 99 3 1 false ?_ ?_ ?_ (by omega)
 ·refine loop Tryz.mixed 0 (fun i:Nat=>[(3,.os 99 (I i).length),(7,.vs (F.map pf)),(8,.int .i64 F.length),(9,.int .i64 i)]) (fun i=>[(99,.arr 3 1 false ((I i).map i1))]) (fun i=>i≤F.length) (fun i=>F.length - i) (by kernel_rfl) (Nat.zero_le _) ?_ ?_
  ·rw[hI0]
   simp only[go_sem,List.map_nil,List.length_nil]
  ·intro i hi
   by_cases hlt:i<F.length
   ·have h1:(i:Int)<(F.length:Int):=by omega
    have hsu:=hsu i hlt
    have hln:=hln i
    have ca:=akg (el F i)
    rw[a4s]at ca
    generalize I i=o at*
    simp only[go_sem,h1,hlt]
    refine call ca [] ?_
    simp only[go_sem]
    refine⟨by omega,i+1,⟨by omega,by omega⟩,?_⟩
    rw[hsu]
    exact⟨⟨by simp,by rw[ae]<;>omega⟩,by simp[i1]⟩
   ·have h1: ¬(i:Int)<(F.length:Int):=by omega
    have:i=F.length:=by omega
    subst this
    have hln:=hln F.length
    generalize I F.length=o at*
    have cc:=wg o (by omega)
    simp only[go_sem,h1]
    refine call cc [99] ?_
    simp only[go_sem]
    rw[acb]
    exact Nat.le_refl _
 ·simp only[go_sem]
 ·simp only[go_sem]
end Go.Proofs.Am
