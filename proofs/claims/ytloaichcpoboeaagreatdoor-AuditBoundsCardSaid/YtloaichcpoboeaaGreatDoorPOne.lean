/- POne. -/
import Derived.Test.YtloaichcpoboeaaGreatDoorBTwo
import Derived.Test.YtloaichcpoboeaaGreatDoorUFour
import Derived.Test.YtloaichcpoboeaaGreatDoorEOne
import Derived.Test.YtloaichcpoboeaaGreatDoorGOne
import Derived.Test.YtloaichcpoboeaaGreatDoorBThree
import Derived.Test.YtloaichcpoboeaaGreatDoorMOne
import Derived.Test.YtloaichcpoboeaaGreatDoorCNine
set_option maxHeartbeats 1000000
set_option maxRecDepth 100000
set_option linter.unusedSimpArgs false
set_option linter.unusedVariables false
namespace Go.Proofs.Am
open Go Go.RowKit
open Go.Proofs
noncomputable def bk2 {α:Type} (n:Nat) (f:Nat->α):α:=Nat.rec (motive:=fun _=>α) (f 0) (fun m _=>f (Nat.succ m)) n
noncomputable def bkb {α:Type} (x:Int) (f:Int->α):α:=match x with
 | .ofNat n=>bk2 n fun m=>f (Int.ofNat m)
 | .negSucc n=>f (Int.negSucc n)
theorem bdm{α:Type}(n:Nat)(f:Nat->α):bk2 n f=f n:=by cases n<;>rfl
theorem baq{α:Type}(x:Int)(f:Int->α):bkb x f=f x:=by
 cases x with
 |ofNat n=>exact bdm n fun m=>f (Int.ofNat m)
 |negSucc n=>rfl
noncomputable def a27 {α:Type} (l:List Int):(List Int->α)->α:=List.rec (motive:=fun _=>(List Int->α)->α) (fun f=>f []) (fun a _ ih f=>bkb a fun b=>ih fun r=>f (b::r)) l
theorem aej{α:Type}(l:List Int): ∀f:List Int->α,a27 l f=f l:=by
 induction l with
 |nil=>intro f;rfl
 |cons a r ih=>
  intro f;show bkb a (fun b=>a27 r fun r=>f (b::r))=_;rw[baq,ih]
noncomputable def wAS {α:Type} (b:List UInt8) (m:Nat):(List Int->α)->α:=Nat.rec (motive:=fun _=>(List Int->α)->α) (fun f=>f (List.replicate 64 0)) (fun m ih f=>ih fun w=>a27 (w.set m (w16 b m)) f) m
noncomputable def wBS {α:Type} (b:List UInt8) (m:Nat):(List Int->α)->α:=Nat.rec (motive:=fun _=>(List Int->α)->α) (fun f=>wAS b 16 f) (fun m ih f=>ih fun w=>a27 (w.set (16+m) (wst w m)) f) m
noncomputable def bjp {α:Type} (h k w:List Int) (m:Nat):(List Int->α)->α:=Nat.rec (motive:=fun _=>(List Int->α)->α) (fun f=>f h) (fun m ih f=>ih fun v=>a27 (rnd v (el k m) (el w m)) f) m
noncomputable def bko {α:Type} (v h:List Int) (m:Nat):(List Int->α)->α:=Nat.rec (motive:=fun _=>(List Int->α)->α) (fun f=>f v) (fun m ih f=>ih fun u=>a27 (u.set m (ad (el u m) (el h m))) f) m
theorem a9n{α:Type}(b:List UInt8): ∀(m:Nat) (f:List Int->α),wAS b m f=f (wA b m)
 |0,_=>rfl
 |m+1,f=>by
  show wAS b m (fun w=>a27 (w.set m (w16 b m)) f)=_;rw[a9n b m,aej];rfl
theorem a95{α:Type}(b:List UInt8): ∀(m:Nat) (f:List Int->α),wBS b m f=f (wB b m)
 |0,f=>a9n b 16 f
 |m+1,f=>by
  show wBS b m (fun w=>a27 (w.set (16+m) (wst w m)) f)=_;rw[a95 b m,aej];rfl
theorem av2{α:Type}(h k w:List Int): ∀(m:Nat) (f:List Int->α),bjp h k w m f=f (aj9 h k w m)
 |0,_=>rfl
 |m+1,f=>by
  show bjp h k w m (fun v=>a27 (rnd v (el k m) (el w m)) f)=_;rw[av2 h k w m,aej];rfl
theorem azc{α:Type}(v h:List Int): ∀(m:Nat) (f:List Int->α),bko v h m f=f (fin v h m)
 |0,_=>rfl
 |m+1,f=>by
  show bko v h m (fun u=>a27 (u.set m (ad (el u m) (el h m))) f)=_;rw[azc v h m,aej];rfl
noncomputable def bi5 {α:Type} (h:List Int) (b:List UInt8) (f:List Int->α):α:=wBS b 48 fun w=>bjp h kK w 64 fun v=>bko v h 8 f
theorem bew{α:Type}(h:List Int)(b:List UInt8)(f:List Int->α):bi5 h b f=f (a9e h b kK):=by
 unfold bi5 a9e;rw[a95,av2,azc]
noncomputable def hsS {α:Type} (b:List UInt8) (m:Nat):(List Int->α)->α:=Nat.rec (motive:=fun _=>(List Int->α)->α) (fun f=>f h0) (fun m ih f=>ih fun h=>bi5 h ((b.take (64*m+64)).drop (64*m)) f) m
theorem a6v{α:Type}(a:List UInt8)(f:List Int->α):hsS a 0 f=f h0:=rfl
theorem a6t{α:Type}(a:List UInt8)(m:Nat):hsS (α:=α) a (m+1)=fun f=>hsS a m fun h=>bi5 h ((a.take (64*m+64)).drop (64*m)) f:=rfl
theorem bc3(b:List UInt8):hs b 0=h0:=(rfl)
theorem bbb(b:List UInt8)(m:Nat):hs b (m+1)=a9e (hs b m) (((acl b).take (64*m+64)).drop (64*m)) kK:=(rfl)
theorem bie{α:Type}(b:List UInt8)(m:Nat): ∀(f:List Int->α),hsS (acl b) m f=f (hs b m):=by
 induction m with
 |zero=>intro f;rw[a6v,bc3]
 |succ m ih=>
  intro f;rw[a6t];dsimp only;rw[ih,bew,bbb]
def aty(a b:Stm):Int:=or2 (gv a.nu b.nu) (Lib.compareBytes a.sd b.sd)
def ltN(a b:Stm):Bool:=decide (aty a b<0)
def d7(a b:Stm):Bool:=decide (aty a b=0)
theorem to_N:TO (fun p q:Int×List UInt8=>or2 (gv p.1 q.1) (Lib.compareBytes p.2 q.2)):=oa lu apm
theorem ax1{a b:Stm}:aty a b=0↔a.nu=b.nu/\a.sd=b.sd:=by
 have:=to_N.eq (a.nu,a.sd) (b.nu,b.sd);simpa only[aty,Prod.mk.injEq] using this
theorem xc{a b:Stm}:aty a b<0↔0<aty b a:=to_N.flip (a.nu,a.sd) (b.nu,b.sd)
def nj(s:Stm):Bool:=decide (am s=0)&&decide (s.sk=s.au/\s.sd=dig s)
def ql(L:List Stm)(a:Int):List Stm:=L.filter fun s=>decide (s.au=a)&&nj s
theorem io{L:List Stm}{a:Int}{s:Stm}:s∈ql L a↔s∈L/\s.au=a/\nj s=true:=by
 simp[ql,List.mem_filter]
def CF(L:List Stm):Prop:= ∀s∈L,∀t∈L,nj s=true->nj t=true->s.au=t.au->s.nu=t.nu->s.sd=t.sd->s=t
theorem CF.own{L:List Stm}(h:CF L){a:Int}{s t:Stm}(hs:s∈ql L a)(ht:t∈ql L a)(h1:s.nu=t.nu)(h2:s.sd=t.sd):s=t:=by
 obtain⟨a1,a2,a3⟩:=io.1 hs;obtain⟨b1,b2,b3⟩:=io.1 ht;exact h s a1 t b1 a3 b3 (a2.trans b2.symm) h1 h2
def au6(l:List Stm):List Stm:=l.mergeSort fun a b=> !decide (aty b a<0)
def jm(L:List Stm)(a:Int):List Stm:=kp d7 (au6 (ql L a)) (au6 (ql L a)).length
theorem ajy(a b:Stm):d7 a b=true↔(ltN a b=false/\ltN b a=false):=by
 have h1:=xc (a:=a) (b:=b);have h2:=xc (a:=b) (b:=a);unfold d7 ltN;rw[decide_eq_true_iff,decide_eq_false_iff_not,decide_eq_false_iff_not];constructor
 ·intro h;constructor<;>omega
 ·rintro⟨h3,h4⟩;omega
theorem bjd{L:List Stm}{a:Int}(h:CF L):KO ltN (fun s=>s∈ql L a) where
 irr x:=decide_eq_false (to_N.irr (x.nu,x.sd))
 tr x y z h1 h2:=decide_eq_true (to_N.tr (x.nu,x.sd) (y.nu,y.sd) (z.nu,z.sd) (of_decide_eq_true h1) (of_decide_eq_true h2))
 nt x y z h1 h2:=decide_eq_false (to_N.nt (x.nu,x.sd) (y.nu,y.sd) (z.nu,z.sd) (of_decide_eq_false h1) (of_decide_eq_false h2))
 tri x y hx hy h1 h2:=by
  have h3:=of_decide_eq_true ((ajy x y).2 ⟨h1,h2⟩);obtain⟨e1,e2⟩:=ax1.1 h3;exact h.own hx hy e1 e2
theorem azp(l:List Stm):(au6 l).Pairwise fun a b=>ltN b a=false:=by
 have:=List.pairwise_mergeSort (le:=fun a b:Stm=> !decide (aty b a<0)) (fun a b c h1 h2=>by
  simp only[Bool.not_eq_true',decide_eq_false_iff_not]at h1 h2 ⊢;exact to_N.nt (c.nu,c.sd) (b.nu,b.sd) (a.nu,a.sd) h2 h1) (fun a b=>by
  simp only[Bool.or_eq_true,Bool.not_eq_true',decide_eq_false_iff_not];have h1:=xc (a:=b) (b:=a);omega) l
 exact this.imp fun h=>by simpa [ltN] using h
theorem z6{L:List Stm}{a:Int}(h:CF L):SS ltN (jm L a)/\∀s,s∈jm L a↔s∈ql L a:=by
 have hp:=List.mergeSort_perm (ql L a) fun a b:Stm=> !decide (aty b a<0);have h:=(bjd (a:=a) h).kp_inv ajy (l:=au6 (ql L a)) (fun x hx=>hp.mem_iff.1 hx) (azp _) _ (Nat.le_refl _);refine⟨h.1,fun x=> ?_⟩;rw[jm,h.2,List.take_length];exact hp.mem_iff
theorem afv(L:List Stm)(a:Int):(ql L a).length<=L.length:=List.length_filter_le _ _
theorem vn(L:List Stm)(a:Int):(jm L a).length<=L.length:=by
 have h1:=abm d7 (au6 (ql L a)) (au6 (ql L a)).length;have h2:(au6 (ql L a)).length=(ql L a).length:=List.length_mergeSort _;have h3:=afv L a;unfold jm;omega
def af8(M:List Stm)(i:Nat):Bool:=decide (0<i)&&decide ((el M i).nu=(el M (i - 1)).nu)
def fx(M:List Stm):List (Stm×Stm):=match (List.range M.length).find? (af8 M)with|some i=>[(el M (i - 1),el M i)]|none=>[]
theorem a3y{M:List Stm}{i:Nat}(hi:i<M.length)(h:af8 M i=true)(hb: ∀j,j<i->af8 M j=false):fx M=[(el M (i - 1),el M i)]:=by
 have:(List.range M.length).find? (af8 M)=some i:=List.find?_range_eq_some.2 ⟨h,by simpa using hi,fun j hj=>by simp[hb j hj]⟩;rw[fx,this]
theorem as5{M:List Stm}(hb: ∀j,j<M.length->af8 M j=false):fx M=[]:=by
 have:(List.range M.length).find? (af8 M)=none:=List.find?_range_eq_none.2 fun j hj=>by simp[hb j hj]
 rw[fx,this]
theorem ade(M:List Stm):(fx M=[]/\∀j,j<M.length->af8 M j=false)\/∃i,0<i/\i<M.length/\fx M=[(el M (i - 1),el M i)]:=by
 cases h:(List.range M.length).find? (af8 M)with
 |none=>exact .inl ⟨by rw[fx,h],fun j hj=>by simpa using List.find?_range_eq_none.1 h j hj⟩
 |some i=>
  obtain⟨h1,h2,_⟩:=List.find?_range_eq_some.1 h;rw[af8,Bool.and_eq_true]at h1;exact .inr ⟨i,of_decide_eq_true h1.1,by simpa using h2,by rw[fx,h]⟩
def a3f(v:Vt)(s:Stm):Bool:=decide ((ofE s).2=0)&&(dd (ofE s).1.c v.c&&decide (ot (ofE s).1.x v.x=0))
def asx(M:List Stm)(v:Vt):Stm:=el M (a91 (a3f v) M).toNat
def ajp(M:List Stm):List (Stm×Stm):=(kn M).flatMap fun c=>if 1<(bj M c).length then [(asx M (el (bj M c) 0),asx M (el (bj M c) 1))]else []
def pfs(k:Int)(l:List (Stm×Stm)):List (Int×Stm×Stm):=l.map fun p=>(k,p.1,p.2)
def x7(M:List Stm):List (Int×Stm×Stm):=if 1<M.length then pfs 1 (fx M)++pfs 2 (ajp M)else []
def ms(L:List Stm)(n:Nat):List (Int×Stm×Stm):=(List.range n).flatMap fun a:Nat=>x7 (jm L a)
def avv(L:List Stm):List Int:=a3b ((ms L 64).map fun p=>p.2.1.au)
def gB(L:List Stm)(a:Int):Bool:=(ql L a).any fun s=>(ql L a).any fun t=>decide (s.nu=t.nu)&&decide (s≠t)
theorem apw{L:List Stm}{a:Int}:gB L a=true↔∃s∈ql L a,∃t∈ql L a,s.nu=t.nu/\s≠t:=by
 simp[gB,List.any_eq_true]
theorem bhc{a b:Stm}(h:ltN a b=true):a.nu<=b.nu:=by
 have h1:=of_decide_eq_true h;unfold aty or2 gv at h1
 repeat' split at h1
 all_goals omega
theorem aoo{L:List Stm}{a:Int}(h:CF L):fx (jm L a)≠[]↔gB L a=true:=by
 obtain⟨hs,hm⟩:=z6 (a:=a) h;rw[apw];constructor
 ·intro hne;rcases ade (jm L a)with ⟨h1,_⟩|⟨i,h0,hi,h2⟩
  ·exact absurd h1 hne
  ·have hadj:af8 (jm L a) i=true:=by
    cases hf:(List.range (jm L a).length).find? (af8 (jm L a))with
    |none=>rw[fx,hf]at h2;cases h2
    |some k=>
     obtain⟨k1,k2,_⟩:=List.find?_range_eq_some.1 hf;have k3:fx (jm L a)=[(el (jm L a) (k - 1),el (jm L a) k)]:=by rw[fx,hf]
     rw[h2]at k3;rw[af8,Bool.and_eq_true]at k1;have k4:=of_decide_eq_true k1.2;simp only[List.cons.injEq,Prod.mk.injEq,and_true]at k3;rw[af8,decide_eq_true h0,Bool.true_and,decide_eq_true_iff,k3.1,k3.2];exact k4
   rw[af8,Bool.and_eq_true]at hadj;have hnu:=of_decide_eq_true hadj.2;have e1:=cj hi;have e2:=cj (show i - 1<(jm L a).length by omega);refine⟨_,(hm _).1 e1,_,(hm _).1 e2,hnu,fun he=> ?_⟩;have hlt:=List.pairwise_iff_getElem.1 hs (i - 1) i (by omega) hi (by omega);rw[<-elG _ _ (by omega),<-elG _ _ hi,he,(bjd (a:=a) h).irr]at hlt
   cases hlt
 ·rintro⟨s,s1,t,t1,hnu,hne⟩ hnil;rcases ade (jm L a)with ⟨_,h2⟩|⟨i,_,_,h3⟩
  rotate_left
  ·rw[hnil]at h3;cases h3
  obtain⟨i,hi,rfl⟩:=ahe ((hm s).2 s1);obtain⟨j,hj,rfl⟩:=ahe ((hm t).2 t1)
  have mono: ∀i j,i<j->j<(jm L a).length->(el (jm L a) i).nu<=(el (jm L a) j).nu:=fun i j hij hj=>by
   have hlt:=List.pairwise_iff_getElem.1 hs i j (by omega) hj hij;rw[<-elG _ _ (by omega),<-elG _ _ hj]at hlt;exact bhc hlt
  have key: ∀i j,i<j->j<(jm L a).length->(el (jm L a) i).nu=(el (jm L a) j).nu->False:=fun i j hij hj he=>by
   have h4:=h2 (i+1) (by omega);rw[af8,decide_eq_true (by omega),Bool.true_and,Nat.add_sub_cancel,decide_eq_false_iff_not]at h4;have m1:=mono i (i+1) (by omega) (by omega);by_cases hij2:i+1=j
   ·exact h4 (by rw[hij2];exact he.symm)
   ·have m2:=mono (i+1) j (by omega) hj;exact h4 (by omega)
  rcases Nat.lt_trichotomy i j with h5|h5|h5
  ·exact key i j h5 hj hnu
  ·subst h5;exact hne rfl
  ·exact key j i h5 hi hnu.symm
def UNI(L:List Stm):Prop:= ∀c,∀s∈L,∀t∈L,okV c s=true->okV c t=true->s.au=t.au->s.nu=t.nu
theorem a2q{p:Stm->Bool}{l:List Stm}(h:l.any p=true): ∃i:Nat,a91 p l=(i:Int)/\i<l.length/\p (el l i)=true:=by
 cases hf:l.findIdx? p with
 |none=>
  rw[List.findIdx?_eq_none_iff]at hf;rw[List.any_eq_true]at h;obtain⟨x,hx,hp⟩:=h;rw[hf x hx]at hp
  cases hp
 |some i=>
  obtain⟨h1,h2,_⟩:=List.findIdx?_eq_some_iff_getElem.1 hf;exact⟨i,by rw[a91,hf],h1,by rw[elG _ _ h1];exact h2⟩
theorem axg{M:List Stm}{c:Cs}{v:Vt}(h:v∈bj M c):M.any (a3f v)=true:=by
 obtain⟨s,hs,ho,rfl⟩:=jn.1 h;refine List.any_eq_true.2 ⟨s,hs,?_⟩;have h1:=(Bool.and_eq_true_iff.1 ho).1;have h2:(ofE s).2=0:=of_decide_eq_true (Bool.and_eq_true_iff.1 h1).1;unfold a3f;rw[decide_eq_true h2,Bool.true_and];have e1:(ej s).1=(ofE s).1:=rfl;rw[e1,(ae5 _ _).2 rfl];simp[dd]
theorem a7c{M:List Stm}{c:Cs}{v:Vt}(h:v∈bj M c):asx M v∈M:=by
 obtain⟨i,h1,h2,_⟩:=a2q (axg h);unfold asx;rw[h1,Int.toNat_natCast];exact cj h2
theorem ar1{L:List Stm}{a:Int}(h:CF L)(hu:UNI L)(hd:ajp (jm L a)≠[]):gB L a=true:=by
 obtain⟨_,hm⟩:=z6 (a:=a) h;obtain⟨p,hp⟩:=List.exists_mem_of_ne_nil _ hd;obtain⟨c,_,hc⟩:=List.mem_flatMap.1 hp;split at hc
 rotate_left
 ·simp at hc
 rename_i hl;have hss:=(adh (jm L a) c).1;have hlt:=List.pairwise_iff_getElem.1 hss 0 1 (by omega) hl (by omega);obtain⟨s0,s1,s2,s3⟩:=jn.1 (List.getElem_mem (show 0<(bj (jm L a) c).length by omega));obtain⟨t0,t1,t2,t3⟩:=jn.1 (List.getElem_mem hl);have m1:=(hm _).1 s1;have m2:=(hm _).1 t1;obtain⟨a1,a2,_⟩:=io.1 m1;obtain⟨b1,b2,_⟩:=io.1 m2;refine apw.2 ⟨s0,m1,t0,m2,hu c s0 a1 t0 b1 s2 t2 (a2.trans b2.symm),fun he=> ?_⟩;subst he;rw[<-s3,<-t3]at hlt;have:=(bg4 c).irr (ej s0).1;rw[this]at hlt
 cases hlt
theorem a67{L:List Stm}{a:Int}(h:CF L): ∀p∈x7 (jm L a),p.2.1.au=a:=fun p hp=>by
 obtain⟨_,hm⟩:=z6 (a:=a) h;unfold x7 at hp;split at hp
 rotate_left
 ·simp at hp
 rcases List.mem_append.1 hp with hp|hp
 ·obtain⟨q,hq,rfl⟩:=List.mem_map.1 hp;rcases ade (jm L a)with ⟨h1,_⟩|⟨i,h0,hi,h2⟩
  ·rw[h1]at hq;simp at hq
  ·rw[h2,List.mem_singleton]at hq;rw[hq];exact(io.1 ((hm _).1 (cj (show i - 1<(jm L a).length by omega)))).2.1
 ·obtain⟨q,hq,rfl⟩:=List.mem_map.1 hp;obtain⟨c,_,hc⟩:=List.mem_flatMap.1 hq;split at hc
  rotate_left
  ·simp at hc
  rename_i hl;rw[List.mem_singleton]at hc;rw[hc];exact(io.1 ((hm _).1 (a7c (cj (show 0<(bj (jm L a) c).length by omega))))).2.1
theorem apk{L:List Stm}{a:Int}(h:CF L)(hu:UNI L):x7 (jm L a)≠[]↔gB L a=true:=by
 obtain⟨_,hm⟩:=z6 (a:=a) h;constructor
 ·intro hne;unfold x7 at hne;split at hne
  ·by_cases h1:fx (jm L a)=[]
   ·refine ar1 h hu fun h2=>hne ?_;rw[h1,h2];rfl
   ·exact(aoo h).1 h1
  ·exact absurd rfl hne
 ·intro hg;have h1:=(aoo h).2 hg;obtain⟨s,s1,t,t1,_,hne⟩:=apw.1 hg
  have hl:1<(jm L a).length:=by
   have m1:=(hm s).2 s1;have m2:=(hm t).2 t1
   match hM:jm L a,m1,m2 with
   |[],m1,_=>simp at m1
   |[x],m1,m2=>simp at m1 m2;exact absurd (m1.trans m2.symm) hne
   |_::_::_,_,_=>simp
  unfold x7;rw[if_pos hl];intro h2;obtain⟨h3,_⟩:=List.append_eq_nil_iff.1 h2;exact h1 (List.map_eq_nil_iff.1 h3)
theorem bds{L:List Stm}(h:CF L)(hu:UNI L):avv L=fc (gB L) 64:=by
 have hmap:(ms L 64).map (fun p=>p.2.1.au)=(List.range 64).flatMap fun a:Nat=>List.replicate (x7 (jm L a)).length (a:Int):=by
  unfold ms;rw[List.map_flatMap];congr 1;funext a;refine List.eq_replicate_iff.2 ⟨by rw[List.length_map],fun b hb=> ?_⟩;obtain⟨p,hp,rfl⟩:=List.mem_map.1 hb;exact a67 h p hp
 have hmem: ∀k:Int,k∈(ms L 64).map (fun p=>p.2.1.au)↔(0<=k/\k<64)/\gB L k=true:=fun k=>by
  rw[hmap,List.mem_flatMap];constructor
  ·rintro⟨a,ha,hk⟩;obtain⟨h1,rfl⟩:=List.mem_replicate.1 hk;have ha:=List.mem_range.1 ha;exact⟨by omega,(apk h hu).1 fun h2=>h1 (by rw[h2];rfl)⟩
  ·rintro⟨⟨h1,h2⟩,h3⟩;obtain⟨a,rfl⟩: ∃a:Nat,k=a:=⟨k.toNat,by omega⟩;refine⟨a,List.mem_range.2 (by omega),List.mem_replicate.2 ⟨fun h4=> ?_,rfl⟩⟩;exact(apk h hu).2 h3 (List.eq_nil_of_length_eq_zero h4)
 have hsort:((ms L 64).map fun p=>p.2.1.au).Pairwise fun x y=>decide (x<=y)=true:=by
  rw[hmap,List.pairwise_flatMap];refine⟨fun a _=>List.pairwise_replicate.2 (.inr (by simp)),?_⟩;refine List.Pairwise.imp ?_ (List.pairwise_lt_range (n:=64));intro a b hab x hx y hy;rw[(List.mem_replicate.1 hx).2,(List.mem_replicate.1 hy).2];simp;omega
 have hs:srt ((ms L 64).map fun p=>p.2.1.au)=(ms L 64).map fun p=>p.2.1.au:=List.mergeSort_of_pairwise hsort;unfold avv;rw[<-hs,a7x _ (fun x hx=>((hmem x).1 hx).1)];unfold fc;refine List.filter_congr fun k hk=> ?_;obtain⟨a,ha,rfl⟩:=List.mem_map.1 hk;have ha:=List.mem_range.1 ha;rw[Bool.eq_iff_iff,decide_eq_true_iff,hmem];exact⟨fun h=>h.2,fun h=>⟨by omega,h⟩⟩
theorem ap3(a b:Stm):Den Tryz.prog 150 [.agg (sm a),.agg (sm b)] [] (.int .i64 (aty a b)) [] []:=by
 refine aa Tryz.func150 rfl Tryz.call150 Tryz.ntmps150 Tryz.results150 (by simp) (by kernel_rfl) [] (exts:=[]) rfl rfl ?_;simp only[go_sem];refine call (eb a.nu b.nu) [] ?_;simp only[go_sem];refine call (abc a.sd b.sd) [] ?_;simp only[go_sem];refine call (yo [gv a.nu b.nu,Lib.compareBytes a.sd b.sd] (by simp[big])) [] ?_;simp only[go_sem];refine⟨ag (by kernel_rfl),?_⟩;simp only[orL,aty,or2]
 repeat' split
 all_goals simp_all
theorem alm(a b:Stm):Den Tryz.prog 154 [.agg (sm a),.agg (sm b),.ptr 1000000 0] [.cells [.fn 150 []]] (.bool (d7 a b)) [] [.cells [.fn 150 []]]:=by
 refine aa Tryz.func154 rfl Tryz.call154 Tryz.ntmps154 Tryz.results154 (by simp) (by kernel_rfl) [] (exts:=[1000000]) rfl rfl ?_;simp only[go_sem];refine call (ap3 a b) [] ?_;simp only[go_sem];rfl
theorem a0x{L:List Stm}{a:Int}(l:List Stm)(hl:l.length<4611686018427387904)(h:CF L)(hm: ∀s∈l,s∈ql L a):
  Den Tryz.prog 152 [.os 1000000 l.length,.fn 150 []] [.arr 100 13 false (l.map sm)] (.tup []) [] [.arr 100 13 false ((au6 l).map sm)]:=by
 refine wh (F:=sm) (cf:=aty) (enters_of Tryz.func152 (by kernel_rfl) rfl) hl
  (fun m enc hk h1 c hO b cap d w hcmp hH hblk hsz=>AnyQ.slices_SortFunc Tryz.sortStm 13 (fun _=>by kernel_rfl) (fun _=>by kernel_rfl) enc hk h1 c hO _ _ b 0 cap d w (enters_of Tryz.func150 (by kernel_rfl) rfl) hcmp hH hblk hsz)
  (fun p cap fv w=>AnyF.slices_SortFunc_none Tryz.sortStm p cap fv w)
  (fun x hx y hy=>ap3 x y) (fun x _=>to_N.irr (x.nu,x.sd)) (fun x _ y _ z _=>to_N.tr (x.nu,x.sd) (y.nu,y.sd) (z.nu,z.sd)) (fun x _ y _ z _=>to_N.nt (x.nu,x.sd) (y.nu,y.sd) (z.nu,z.sd)) (fun x hx y hy h1 h2=> ?_) (List.mergeSort_perm _ _) ?_
 ·exact(bjd (a:=a) h).tri x y (hm x hx) (hm y hy) (decide_eq_false h1) (decide_eq_false h2)
 ·exact(azp l).imp fun h=>of_decide_eq_false h
theorem ah0(l:List Stm)(hl:big l.length)(hd: ∀i,0<i->i<l.length->d7 (el l i) (el l (i - 1))=false):
  Den Tryz.prog 153 [.os 1000000 l.length,.fn 154 [.ptr 1000001 0]] [.arr 100 13 false (l.map sm),.cells [.fn 150 []]] (.os 1000000 l.length) [] [.arr 100 13 false (l.map sm),.cells [.fn 150 []]]:=by
 refine aa Tryz.func153 rfl Tryz.call153 Tryz.ntmps153 Tryz.results153 (by simp) (by kernel_rfl) [] (exts:=[1000000,1000001]) rfl rfl ?_;by_cases h2:(l.length:Int)<2
 ·simp only[go_sem,h2]
 simp only[go_sem,h2];refine loop Tryz.mixed 1 (fun i:Nat=>[(0,.os 1000000 l.length),(1,.fn 154 [.ptr 1000001 0]),(5,.int .i64 i)]) (fun _=>[(1000000,.arr 100 13 false (l.map sm)),(1000001,.cells [.fn 150 []])]) (fun i=>1<=i/\i<=l.length) (fun i=>l.length - i) (by kernel_rfl) ⟨Nat.le_refl _,by omega⟩ ?_ ?_
 ·simp only[go_sem]
 ·rintro i ⟨hi0,hi⟩;by_cases hlt:i<l.length
  ·have h1:(i:Int)<(l.length:Int):=by omega
   obtain⟨j,rfl⟩: ∃j,i=j+1:=⟨i - 1,by omega⟩;have hw:IntKind.i64.wrap (((j+1:Nat):Int) - 1)=(j:Int):=by rw[ae]<;>omega
   have hj:j<l.length:=by omega
   simp only[go_sem,h1,hlt,hw,hj];have hne:=hd (j+1) (by omega) hlt;rw[Nat.add_sub_cancel]at hne;refine call (alm (el l (j+1)) (el l j)) [1000001] ?_;simp only[go_sem,hne];refine⟨ag (by kernel_rfl),j+1+1,⟨⟨by omega,by omega⟩,by omega⟩,?_⟩;rw[ae]<;>omega
  ·have h1: ¬(i:Int)<(l.length:Int):=by omega
   simp only[go_sem,h1]
theorem aer(l:List Stm)(hl:big l.length){k0:Nat}(h1:0<k0)(h2:k0<l.length)(h3:d7 (el l k0) (el l (k0 - 1))=true)(h4: ∀j,0<j->j<k0->d7 (el l j) (el l (j - 1))=false):
  Den Tryz.prog 153 [.os 1000000 l.length,.fn 154 [.ptr 1000001 0]] [.arr 100 13 false (l.map sm),.cells [.fn 150 []]] (.vs ((kp d7 l l.length).map sm)) [] [.arr 100 13 true ((kp d7 l l.length).map sm++List.replicate (l.length - (kp d7 l l.length).length) zS),.cells [.fn 150 []]]:=by
 refine aa Tryz.func153 rfl Tryz.call153 Tryz.ntmps153 Tryz.results153 (by simp) (by kernel_rfl) [] (exts:=[1000000,1000001]) rfl rfl ?_;have hlen: ¬(l.length:Int)<2:=by omega
 simp only[go_sem,hlen];refine r5 Tryz.mixed 1 (fun i:Nat=>[(0,.os 1000000 l.length),(1,.fn 154 [.ptr 1000001 0]),(5,.int .i64 i)]) (fun _=>[(1000000,.arh 100 13 (l.map sm)),(1000001,.cells [.fn 150 []])]) (fun i=>1<=i/\i<=k0) (fun i=>k0 - i) (by kernel_rfl) ⟨Nat.le_refl _,by omega⟩ ?_ ?_
 ·refine Cv.trans (Cv.opn (n:=1000000) (by rfl)) (Cv.wk ?_);have hin:=bd [1000000,1000001] sm (fun _=>rfl) l;simp only[go_sem,hin]
 ·rintro i ⟨hi0,hi⟩;have hlt:i<l.length:=by omega
  have g1:(i:Int)<(l.length:Int):=by omega
  obtain⟨j,rfl⟩: ∃j,i=j+1:=⟨i - 1,by omega⟩;have hw:IntKind.i64.wrap (((j+1:Nat):Int) - 1)=(j:Int):=by rw[ae]<;>omega
  have hj:j<l.length:=by omega
  have cq:=alm (el l (j+1)) (el l j);by_cases hk:j+1<k0
  ·have hne:=h4 (j+1) (by omega) hk;rw[Nat.add_sub_cancel]at hne;rw[hne]at cq;simp only[go_sem,g1,hlt,hw,hj];refine call cq [1000001] ?_;simp only[go_sem];refine⟨ag (by kernel_rfl),j+1+1,⟨⟨by omega,by omega⟩,by omega⟩,Cv.wk ?_⟩;have hin:=bd [1000000,1000001] sm (fun _=>rfl) l;simp only[go_sem,hin];rw[ae]<;>omega
  ·obtain rfl:k0=j+1:=by omega
   rw[Nat.add_sub_cancel]at h3;rw[h3]at cq;simp only[go_sem,g1,hlt,hw,hj];refine call cq [1000001] ?_;simp only[go_sem,g1,hlt,hw,hj];refine⟨ag (by kernel_rfl),?_⟩
   have kf:kp d7 l (j+1+1)=l.take (j+1):=by
    have:=zz d7 l (j+1) (by omega) h4;rw[kp,if_neg (fun h=>by rcases h with h|h;omega;rw[Nat.add_sub_cancel,h3]at h;cases h),this,List.append_nil]
   refine r5 Tryz.mixed (0,l) (fun s:Nat×List Stm=>[(0,.os 1000000 l.length),(1,.fn 154 [.ptr 1000001 0]),(5,.int .i64 (kp d7 l (j+1+(s.1+1))).length),(6,.osl 1000000 l.length (j+1)),(7,.int .i64 ((s.1+1:Nat):Int))]) (fun s=>[(1000000,.arh 100 13 (s.2.map sm)),(1000001,.cells [.fn 150 []])])
    (fun s=>j+1+(s.1+1)<=l.length/\s.2.length=l.length/\(kp d7 l (j+1+(s.1+1))).length<j+1+(s.1+1)/\s.2.take (kp d7 l (j+1+(s.1+1))).length=kp d7 l (j+1+(s.1+1))/\∀a,(kp d7 l (j+1+(s.1+1))).length<=a->el s.2 a=el l a) (fun s=>l.length - s.1) (by kernel_rfl) ?_ ?_ ?_
   ·have hlt':(l.take (j+1)).length=j+1:=by simp;omega
    refine⟨by simp only;omega,rfl,?_,?_,fun a _=>rfl⟩
    ·show(kp d7 l (j+1+1)).length<j+1+1;rw[kf,hlt'];omega
    ·show l.take (kp d7 l (j+1+1)).length=kp d7 l (j+1+1);rw[kf,hlt']
   ·refine Cv.wk ?_;have hlt':(l.take (j+1)).length=j+1:=by simp;omega
    have hin:=bd [1000000,1000001] sm (fun _=>rfl) l;simp only[go_sem,hin,kf,hlt']
   ·rintro⟨n,L⟩ ⟨i1,i2,i3,i4,i5⟩;simp only at i1 i2 i3 i4 i5;simp only
    have ks:kp d7 l (j+1+(n+1)+1)=kp d7 l (j+1+(n+1))++if d7 (el l (j+1+(n+1))) (el l (j+1+n))=false then [el l (j+1+(n+1))]else []:=by
     rw[kp];have h0: ¬j+1+(n+1)=0:=by omega
     simp only[h0,false_or];rfl
    have k0p:0<(kp d7 l (j+1+(n+1))).length:=a2y _ _ (by omega);generalize hO:kp d7 l (j+1+(n+1))=o at*;by_cases hm:j+1+(n+1)<l.length
    ·have g2:((n+1:Nat):Int)<((l.length - (j+1):Nat):Int):=by omega
     have g3:((j+1:Nat):Int)+((n+1:Nat):Int)<(l.length:Int):=by omega
     have g4:((j+1:Nat):Int)+(n:Int)<(l.length:Int):=by omega
     have g5:IntKind.i64.wrap (((n+1:Nat):Int) - 1)=(n:Int):=by rw[ae]<;>omega
     have g6:j+1+(n+1)<L.length:=by omega
     have g7:j+1+n<L.length:=by omega
     have e1:el L (j+1+(n+1))=el l (j+1+(n+1)):=i5 _ (by omega);have e2:el L (j+1+n)=el l (j+1+n):=i5 _ (by omega);have ks':kp d7 l (j+1+((n+1)+1))=o++if d7 (el l (j+1+(n+1))) (el l (j+1+n))=false then [el l (j+1+(n+1))]else []:=ks
     have cq2:=alm (el l (j+1+(n+1))) (el l (j+1+n));have hm2:j+1+n<l.length:=by omega
     cases hsame:d7 (el l (j+1+(n+1))) (el l (j+1+n))with
     |true=>
      rw[hsame,if_neg (by simp),List.append_nil]at ks';rw[hsame]at cq2;simp only[go_sem,g2,g3,g4,g5,g6,g7,i2,e1,e2,hm,hm2];refine call cq2 [1000001] ?_;simp only[go_sem,g2,g3,g4,g5,g6,g7,i2,e1,e2,hm,hm2];refine⟨ag (by kernel_rfl),(n+1,L),⟨⟨by simp only;omega,i2,?_,?_,fun a ha=>i5 a ?_⟩,by simp only;omega⟩,Cv.wk ?_⟩
      ·show(kp d7 l (j+1+((n+1)+1))).length<_;rw[ks'];simp only;omega
      ·show L.take (kp d7 l (j+1+((n+1)+1))).length=_;rw[ks'];exact i4
      ·have ha':(kp d7 l (j+1+((n+1)+1))).length<=a:=ha
       rwa [ks']at ha'
      ·have hin:=bd [1000000,1000001] sm (fun _=>rfl) L;simp only[go_sem,ks',hin]
       rw[ae]<;>omega
     |false=>
      rw[hsame,if_pos rfl]at ks';rw[hsame]at cq2;have g8:o.length<l.length:=by omega
      simp only[go_sem,g2,g3,g4,g5,g6,g7,g8,i2,e1,e2,hm,hm2];refine call cq2 [1000001] ?_;simp only[go_sem,g2,g3,g4,g5,g6,g7,g8,i2,e1,e2,hm,hm2];refine⟨ag (by kernel_rfl),(n+1,L.set o.length (el l (j+1+(n+1)))),⟨⟨by simp only;omega,by simp only[List.length_set];exact i2,?_,?_,fun a ha=> ?_⟩,by simp only;omega⟩,Cv.wk ?_⟩
      ·show(kp d7 l (j+1+((n+1)+1))).length<_;rw[ks',List.length_append,List.length_singleton];simp only;omega
      ·show(L.set o.length (el l (j+1+(n+1)))).take (kp d7 l (j+1+((n+1)+1))).length=kp d7 l (j+1+((n+1)+1));rw[ks'];exact qe (by omega) i4
      ·have ha':(kp d7 l (j+1+((n+1)+1))).length<=a:=ha;rw[ks',List.length_append,List.length_singleton]at ha';show el (L.set o.length _) a=_;rw[aij (by omega)];exact i5 a (by omega)
      ·have hin:=bd [1000000,1000001] sm (fun _=>rfl) (L.set o.length (el l (j+1+(n+1))));have hset:(L.map sm).set o.length [PV.int IntKind.i64 (el l (j+1+(n+1))).au,PV.int IntKind.i64 (el l (j+1+(n+1))).nu,PV.str (el l (j+1+(n+1))).prev,PV.int IntKind.i64 (el l (j+1+(n+1))).ti,PV.int IntKind.i64 (el l (j+1+(n+1))).kd,PV.int IntKind.i64 (el l (j+1+(n+1))).a,PV.int IntKind.i64 (el l (j+1+(n+1))).b,PV.int IntKind.i64 (el l (j+1+(n+1))).c,PV.vs (List.map Am.i1 (el l (j+1+(n+1))).li),PV.vs (List.map pn (el l (j+1+(n+1))).pins),PV.str (el l (j+1+(n+1))).body,PV.int IntKind.i64 (el l (j+1+(n+1))).sk,PV.str (el l (j+1+(n+1))).sd]=(L.set o.length (el l (j+1+(n+1)))).map sm:=by rw[List.map_set];rfl
       have hol:(o++[el l (j+1+(n+1))]).length=o.length+1:=by simp
       simp only[go_sem,ks',hset,hin,hol];exact⟨by rw[ae]<;>omega,by rw[ae]<;>omega⟩
    ·have hend:j+1+(n+1)=l.length:=by omega
     have g2: ¬((n+1:Nat):Int)<((l.length - (j+1):Nat):Int):=by omega
     have g3:(o.length:Int)<(l.length:Int):=by omega
     rw[hend]at hO;rw[hO];have htk:(L.map sm).take o.length=o.map sm:=by rw[<-List.map_take,i4]
     have hpu: ∀σ,jl σ (o.map sm++List.replicate (l.length - o.length) zS)=some (o.map sm++List.replicate (l.length - o.length) zS,[]):=fun σ=>lp fun x hx=>by
      rcases List.mem_append.1 hx with hx|hx
      ·obtain⟨c,_,rfl⟩:=List.mem_map.1 hx;rfl
      ·rw[List.eq_of_mem_replicate hx];rfl
     have g4:(o.length:Int)<=(l.length:Int):=by omega
     have g5:(o.map sm++List.replicate (l.length - o.length) zS).length=l.length:=by simp;omega
     have g6:(o.map sm++List.replicate (l.length - o.length) zS).take o.length=o.map sm:=by simp
     simp only[go_sem,g2,g3,i2,htk];refine md _ _ ?_;have g7:o.length<l.length:=by omega
     simp only[go_sem,g2,g3,i2,htk,g7,<-bi9,hpu,g4,g5,g6];refine ak0 _ ?_;simp only[go_sem]
theorem acu(l:List Stm)(hl:big l.length):
  ∃new,new.length=l.length/\Den Tryz.prog 153 [.os 1000000 l.length,.fn 154 [.ptr 1000001 0]] [.arr 100 13 false (l.map sm),.cells [.fn 150 []]] (.vs ((kp d7 l l.length).map sm)) [] [.arr 100 13 true new,.cells [.fn 150 []]]:=by
 rcases wz d7 l l.length (Nat.le_refl _)with h|⟨k0,h1,h2,h3,h4⟩
 ·rw[akq _ _ h];exact⟨_,by simp,(ah0 l hl h).vsE (by simp)⟩
 ·exact⟨_,by have:=abm d7 l l.length;simp;omega,aer l hl h1 h2 h3 h4⟩
def as4(L:List Stm)(a:Int)(i:Nat):List Stm:=ql (L.take i) a
theorem av5{L:List Stm}{a:Int}{i:Nat}(h:i<L.length):as4 L a (i+1)=as4 L a i++(if(decide ((el L i).au=a)&&nj (el L i))=true then [el L i]else []):=by
 unfold as4 ql;rw[cu h,List.filter_append];congr 1;simp only[List.filter_cons,List.filter_nil]
theorem a6w(L:List Stm)(a:Int)(i:Nat):(as4 L a i).length<=L.length:=by
 have h1:=afv (L.take i) a;have h2:(L.take i).length<=L.length:=by rw[List.length_take];omega
 unfold as4;omega
theorem a6i(L:List Stm)(a:Int):as4 L a L.length=ql L a:=by rw[as4,List.take_length]
theorem bcw(L:List Stm)(a:Int)(hl:L.length<=1000000)(hs: ∀s∈L,adv s)(h:CF L):Den Tryz.prog 113 [.vs (L.map sm),.int .i64 a] [] (.vs ((jm L a).map sm)) [] []:=by
 refine aa Tryz.func113 rfl Tryz.call113 Tryz.ntmps113 Tryz.results113 (by simp) (by kernel_rfl) [] (exts:=[]) rfl rfl ?_;simp only[go_sem];refine da 5 99 100 13 false ?_ ?_ ?_ (by omega)
 ·refine loop Tryz.mixed 0 (fun i:Nat=>[(1,.int .i64 a),(5,.os 99 (as4 L a i).length),(9,.vs (L.map sm)),(10,.int .i64 L.length),(11,.int .i64 i)]) (fun i=>[(99,.arr 100 13 false ((as4 L a i).map sm))]) (fun i=>i<=L.length) (fun i=>L.length - i) (by kernel_rfl) (Nat.zero_le _) ?_ ?_
  ·simp only[go_sem];exact⟨rfl,rfl⟩
  ·intro i hi;by_cases hlt:i<L.length
   ·have h1:(i:Int)<(L.length:Int):=by omega
    have hsu:=av5 (a:=a) hlt;have hln:=a6w L a i;have hbs:=hs _ (cj hlt);have c1:=sx (el L i) hbs;have c2:=fun h:am (el L i)=0=>tb (el L i) (aiy h);rw[kg]at c1 c2;have no:(decide ((el L i).au=a)&&nj (el L i))=false->as4 L a (i+1)=as4 L a i:=fun hh=>by rw[hsu,hh,if_neg (by simp),List.append_nil]
    by_cases k1:a=(el L i).au
    rotate_left
    ·have k1': ¬(el L i).au=a:=fun e=>k1 e.symm;have n0:=no (by simp[k1']);simp only[go_sem,h1,hlt,k1,k1'];refine⟨i+1,⟨by omega,by omega⟩,?_⟩;rw[n0];exact⟨⟨rfl,by rw[ae]<;>omega⟩,rfl⟩
    have kt:=eq_true k1;have kt':=eq_true k1.symm;simp only[go_sem,h1,hlt,kt,kt'];refine call c1 [] ?_;by_cases k2:am (el L i)=0
    rotate_left
    ·have n0:=no (by simp[nj,k2]);simp only[go_sem,k2,kt,kt'];refine⟨i+1,⟨by omega,by omega⟩,?_⟩;rw[n0];exact⟨⟨rfl,by rw[ae]<;>omega⟩,rfl⟩
    simp only[go_sem,k2,kt,kt'];refine call (c2 k2) [] ?_;by_cases k3:(el L i).sk=(el L i).au/\(el L i).sd=dig (el L i)
    rotate_left
    ·have n0:=no (by simp[nj,k3]);simp only[go_sem,k3,k2,kt,kt'];refine⟨i+1,⟨by omega,by omega⟩,?_⟩;rw[n0];exact⟨⟨rfl,by rw[ae]<;>omega⟩,rfl⟩
    have y0:as4 L a (i+1)=as4 L a i++[el L i]:=by rw[hsu,if_pos (by simp[nj,<-k1,k2];exact⟨by rw[k1];exact k3.1,k3.2⟩)]
    simp only[go_sem,k3,k2,kt,kt'];refine⟨by omega,i+1,⟨by omega,by omega⟩,?_⟩;rw[y0];exact⟨⟨by simp,by rw[ae]<;>omega⟩,by simp[kg,k3]⟩
   ·have h1: ¬(i:Int)<(L.length:Int):=by omega
    have:i=L.length:=by omega
    subst this;simp only[go_sem,h1];have hfl:=afv L a;rw[a6i];refine call (a0x (ql L a) (by omega) h fun s hs=>hs) [99] ?_;have hsl:(au6 (ql L a)).length=(ql L a).length:=List.length_mergeSort _;simp only[go_sem,hsl];obtain⟨new,hnl,hcc⟩:=acu (au6 (ql L a)) (by simp only[big];omega);rw[hsl]at hcc hnl;refine⟨Nat.le_refl _,?_⟩;have hol:jm L a=kp d7 (au6 (ql L a)) (au6 (ql L a)).length:=rfl;rw[hol,hsl];refine call hcc [99,8] ?_;simp only[go_sem,hsl];omega
 ·simp only[go_sem]
 ·simp only[go_sem]
def pf(p:Int×Stm×Stm):List PV:= .int .i64 p.1::(sm p.2.1++sm p.2.2)
theorem bef(p:Int×Stm×Stm):pf p=[.int .i64 p.1,.int .i64 p.2.1.au,.int .i64 p.2.1.nu,.str p.2.1.prev,.int .i64 p.2.1.ti,.int .i64 p.2.1.kd,.int .i64 p.2.1.a,.int .i64 p.2.1.b,.int .i64 p.2.1.c,.vs (p.2.1.li.map i1),.vs (p.2.1.pins.map pn),.str p.2.1.body,.int .i64 p.2.1.sk,.str p.2.1.sd,
 .int .i64 p.2.2.au,.int .i64 p.2.2.nu,.str p.2.2.prev,.int .i64 p.2.2.ti,.int .i64 p.2.2.kd,.int .i64 p.2.2.a,.int .i64 p.2.2.b,.int .i64 p.2.2.c,.vs (p.2.2.li.map i1),.vs (p.2.2.pins.map pn),.str p.2.2.body,.int .i64 p.2.2.sk,.str p.2.2.sd]:=(rfl)
attribute [go_sem] bef
theorem axu(M:List Stm)(hl:big M.length):Den Tryz.prog 114 [.vs (M.map sm)] [] (.vs ((pfs 1 (fx M)).map pf)) [] []:=by
 refine aa Tryz.func114 rfl Tryz.call114 Tryz.ntmps114 Tryz.results114 (by simp) (by kernel_rfl) [] (exts:=[]) rfl rfl ?_;simp only[go_sem];refine loop Tryz.mixed 1 (fun i:Nat=>[(0,.vs (M.map sm)),(3,.int .i64 i)]) (fun _=>[]) (fun i=>1<=i/\(i<=M.length\/i=1)/\∀j,j<i->af8 M j=false) (fun i=>M.length - i) (by kernel_rfl) ⟨Nat.le_refl _,.inr rfl,fun j hj=>by rw[show j=0 by omega];rfl⟩ ?_ ?_
 ·simp only[go_sem]
 ·rintro i ⟨h0,hi,hp⟩;by_cases hlt:i<M.length
  ·have h1:(i:Int)<(M.length:Int):=by omega
   obtain⟨j,rfl⟩: ∃j,i=j+1:=⟨i - 1,by omega⟩;have hw:IntKind.i64.wrap (((j+1:Nat):Int) - 1)=(j:Int):=by rw[ae]<;>omega
   have hj:j<M.length:=by omega
   have hat:=a3y hlt (M:=M);rw[Nat.add_sub_cancel]at hat;by_cases hn:(el M (j+1)).nu=(el M j).nu
   ·have hq:=hat (by simp[af8,hn]) hp;rw[hq];simp only[go_sem,h1,hlt,hw,hj,hn,pfs];exact⟨ag (by kernel_rfl),ag (by kernel_rfl)⟩
   ·simp only[go_sem,h1,hlt,hw,hj,hn];refine⟨ag (by kernel_rfl),j+1+1,⟨⟨by omega,by omega,fun k hk=> ?_⟩,by omega⟩,by rw[ae]<;>omega⟩;by_cases hkj:k=j+1
    ·subst hkj;simp[af8,hn]
    ·exact hp k (by omega)
  ·have h1: ¬(i:Int)<(M.length:Int):=by omega
   rw[as5 fun j hj=>hp j (by omega)];simp only[go_sem,h1,pfs,List.map_nil]
theorem a5s(v:Vt)(s:Stm)(hs:adv s)(hv:aac v.x):Den Tryz.prog 219 [.agg (sm s),.ptr 1000000 0] [.cells (vt7 v)] (.bool (a3f v s)) [] [.cells (vt7 v)]:=by
 refine aa Tryz.func219 rfl Tryz.call219 Tryz.ntmps219 Tryz.results219 (by simp) (by kernel_rfl) [] (exts:=[1000000]) rfl rfl ?_;have c1:=awm s hs;have hb:aac (ofE s).1.x:=om (adk (s:=s));have hm:a3f v s=(decide ((ofE s).2=0)&&(dd (ofE s).1.c v.c&&decide (ot (ofE s).1.x v.x=0))):=rfl
 have hce:dd (ofE s).1.c v.c=true↔((ofE s).1.c.ep=v.c.ep/\(ofE s).1.c.kd=v.c.kd/\(ofE s).1.c.su=v.c.su/\(ofE s).1.c.ro=v.c.ro):=by
  generalize (ofE s).1.c=a
  cases a
  cases hv:v.c
  simp[dd]
 have c2:=t6 (ofE s).1.x v.x hb.1 hb.2 hv.1 hv.2;rw[kg]at c1;generalize a3f v s=m at*;generalize ofE s=W at*;obtain⟨w,e⟩:=W;dsimp only at c1 c2 hm hce;simp only[go_sem];refine call c1 [] ?_;by_cases he:e=0
 rotate_left
 ·rw[decide_eq_false he,Bool.false_and]at hm;subst hm;simp only[go_sem,he]
 rw[decide_eq_true he,Bool.true_and]at hm
 cases hsc:dd w.c v.c
 ·rw[hsc,Bool.false_and]at hm;subst hm;have hn: ¬(w.c.ep=v.c.ep/\w.c.kd=v.c.kd/\w.c.su=v.c.su/\w.c.ro=v.c.ro):=fun h=>by rw[hce.2 h]at hsc;cases hsc
  simp only[go_sem,he,hn]
  done
 ·rw[hsc,Bool.true_and]at hm;have hy:=hce.1 hsc;simp only[go_sem,he,hy];refine call c2 [] ?_;simp only[go_sem];exact hm.symm
theorem a4i(v:Vt)(hv:aac v.x)(l:List Stm)(hb:big l.length)(hs: ∀s∈l,adv s):Den Tryz.prog 218 [.vs (l.map sm),.fn 219 [.ptr 1000000 0]] [.cells (vt7 v)] (.int .i64 (a91 (a3f v) l)) [] [.cells (vt7 v)]:=by
 refine aa Tryz.func218 rfl Tryz.call218 Tryz.ntmps218 Tryz.results218 (by simp) (by kernel_rfl) [] (exts:=[1000000]) rfl rfl ?_;simp only[go_sem];refine loop Tryz.mixed 0 (fun i:Nat=>[(0,.vs (l.map sm)),(1,.fn 219 [.ptr 1000000 0]),(7,.int .i64 l.length),(8,.int .i64 i)]) (fun i=>[(1000000,.cells (vt7 v))]) (fun i=>i<=l.length/\∀j,j<i->a3f v (el l j)=false) (fun i=>l.length - i) (by kernel_rfl) ?_ ?_ ?_
 ·simp
 ·simp only[go_sem]
 ·rintro i ⟨hi,hp⟩;by_cases hi':i<l.length
  ·have hlt:(i:Int)<(l.length:Int):=by omega
   have cD:=a5s v (el l i) (hs _ (cj hi')) hv;rw[kg,apj]at cD;simp only[go_sem,hlt,hi'];refine call cD [1000000] ?_
   cases e:a3f v (el l i)
   ·simp only[go_sem];refine⟨i+1,⟨⟨by omega,fun j hj=> ?_⟩,by omega⟩,by rw[ae]<;>omega⟩;by_cases hji:j=i
    ·rw[hji];exact e
    ·exact hp j (by omega)
   ·simp only[go_sem];rw[ba4 hi' e hp]
  ·have hf: ¬((i:Int)<(l.length:Int)):=by omega
   have:i=l.length:=by omega
   subst this;simp only[go_sem,hf];rw[a02 hp]
theorem ajn(M:List Stm)(v:Vt)(hl:big M.length)(hs: ∀s∈M,adv s)(hv:aac v.x)(ha:M.any (a3f v)=true):Den Tryz.prog 155 [.vs (M.map sm),.agg (vt7 v)] [] (.agg (sm (asx M v))) [] []:=by
 refine aa Tryz.func155 rfl Tryz.call155 Tryz.ntmps155 Tryz.results155 (by simp) (by kernel_rfl) [] (exts:=[]) rfl rfl ?_;obtain⟨i,h1,h2,_⟩:=a2q ha;have c1:=a4i v hv M hl hs;have hx:asx M v=el M i:=by rw[asx,h1,Int.toNat_natCast]
 rw[h1,apj]at c1;rw[hx];simp only[go_sem];refine call c1 [3] ?_;simp only[go_sem,h2]
 done
theorem ahy{M:List Stm}{K:List Cs}{i:Nat}(h:i<K.length)(f:Cs->List (Stm×Stm)):(K.take (i+1)).flatMap f=(K.take i).flatMap f++f (el K i):=by
 rw[cu h,List.flatMap_append];simp
theorem abz(L:List Stm):(kn L).length<=L.length:=by
 have h1:=abm dd (au9 (zw L L.length)) (au9 (zw L L.length)).length;have h2:(au9 (zw L L.length)).length=(zw L L.length).length:=List.length_mergeSort _
 have h3:(zw L L.length).length<=L.length:=by
  unfold zw;rw[List.length_map];refine Nat.le_trans (List.length_filter_le _ _) ?_;rw[List.length_take];omega
 unfold kn;omega
def dbl(M:List Stm)(c:Cs):List (Stm×Stm):=if 1<(bj M c).length then [(asx M (el (bj M c) 0),asx M (el (bj M c) 1))]else []
theorem aqa(M:List Stm):ajp M=(kn M).flatMap (dbl M):=rfl
theorem am5(M:List Stm)(K:List Cs): ∀i,((K.take i).flatMap (dbl M)).length<=i
 |0=>by simp
 |i+1=>by
  have ih:=am5 M K i;by_cases h:i<K.length
  ·rw[ahy h (M:=M),List.length_append]
   have:(dbl M (el K i)).length<=1:=by
    unfold dbl;split<;>simp
   omega
  ·rw[List.take_of_length_le (by omega)];rw[List.take_of_length_le (by omega)]at ih;omega
theorem aky(M:List Stm)(hl:M.length<=1000000)(hs: ∀s∈M,adv s):Den Tryz.prog 115 [.vs (M.map sm)] [] (.vs ((pfs 2 (ajp M)).map pf)) [] []:=by
 refine aa Tryz.func115 rfl Tryz.call115 Tryz.ntmps115 Tryz.results115 (by simp) (by kernel_rfl) [] (exts:=[]) rfl rfl ?_;have c1:=abg M hl hs;have hKl:=abz M;have cv:=fun c:Cs=>ack M c hl hs;rw[aqa];have hfa:=fun(c:Cs) (v:Vt) (h:v∈bj M c)=>axg h;have hvb:=fun(c:Cs) (v:Vt) (h:v∈bj M c)=>om (ra v h).1;generalize kn M=K at*;simp only[go_sem];refine call c1 [] ?_;simp only[go_sem];have hd0: ∀i,((pfs 2 ((K.take i).flatMap (dbl M)))).length<=i:=fun i=>by rw[pfs,List.length_map];exact am5 M K i
 refine da 3 99 138 27 false ?_ ?_ ?_ (by omega)
 ·refine loop Tryz.mixed 0 (fun i:Nat=>[(0,.vs (M.map sm)),(3,.os 99 (pfs 2 ((K.take i).flatMap (dbl M))).length),(8,.vs (K.map cs)),(9,.int .i64 K.length),(10,.int .i64 i)]) (fun i=>[(99,.arr 138 27 false ((pfs 2 ((K.take i).flatMap (dbl M))).map pf))]) (fun i=>i<=K.length) (fun i=>K.length - i) (by kernel_rfl) (Nat.zero_le _) ?_ ?_
  ·simp only[go_sem,pfs,List.flatMap_nil,List.map_nil,List.length_nil]
   done
  ·intro i hi;by_cases hlt:i<K.length
   ·have h1:(i:Int)<(K.length:Int):=by omega
    have hsu:=ahy (M:=M) hlt (dbl M);have hdi:=hd0 i;have cv:=cv (el K i);have hfa:=hfa (el K i);have hvb:=hvb (el K i);have hde:dbl M (el K i)=if 1<(bj M (el K i)).length then [(asx M (el (bj M (el K i)) 0),asx M (el (bj M (el K i)) 1))]else []:=rfl
    rw[ki]at cv;generalize bj M (el K i)=V at*;have hps:pfs 2 ((K.take (i+1)).flatMap (dbl M))=pfs 2 ((K.take i).flatMap (dbl M))++pfs 2 (dbl M (el K i)):=by rw[hsu,pfs,List.map_append];rfl
    generalize pfs 2 ((K.take i).flatMap (dbl M))=o at*;simp only[go_sem,h1,hlt];refine call cv [] ?_;by_cases h2:1<(V.length:Int)
    ·have hV1:1<V.length:=by omega
     have hV0:0<V.length:=by omega
     have hV0i:(0:Int)<(V.length:Int):=by omega
     rw[if_pos hV1]at hde;rw[hde]at hps;have f0:=ajn M (el V 0) (by simp only[big];omega) hs (hvb _ (cj hV0)) (hfa _ (cj hV0));have f1:=ajn M (el V 1) (by simp only[big];omega) hs (hvb _ (cj hV1)) (hfa _ (cj hV1));rw[apj,kg]at f0 f1;generalize asx M (el V 0)=x0 at*;generalize asx M (el V 1)=x1 at*;simp only[go_sem,h2,hV1,hV0,hV0i];refine call f0 [] ?_;simp only[go_sem,h2,hV1,hV0,hV0i];refine call f1 [] ?_;simp only[go_sem];refine⟨by omega,ag (by kernel_rfl),i+1,⟨by omega,by omega⟩,?_⟩;rw[hps];exact⟨⟨by simp[pfs],by rw[ae]<;>omega⟩,by simp[pfs,bef]⟩
    ·rw[if_neg (by omega)]at hde;rw[hde]at hps;simp only[go_sem,h2];refine⟨i+1,⟨by omega,by omega⟩,?_⟩;rw[hps];simp only[go_sem,pfs,List.map_nil,List.append_nil];rw[ae]<;>omega
   ·have h1: ¬(i:Int)<(K.length:Int):=by omega
    have:i=K.length:=by omega
    subst this;simp only[go_sem,h1,List.take_length]
    done
 ·simp only[go_sem]
 ·simp only[go_sem]
theorem ab4(L:List Stm):ms L 0=[]:=rfl
theorem ab2(L:List Stm)(i:Nat):ms L (i+1)=ms L i++x7 (jm L i):=by
 unfold ms;rw[List.range_succ,List.flatMap_append];simp
theorem ada(k:Int)(l:List (Stm×Stm)):(pfs k l).length=l.length:=by simp[pfs]
theorem ab5(M:List Stm):(fx M).length<=1:=by
 unfold fx;split<;>simp
theorem aie(M:List Stm):(ajp M).length<=M.length:=by
 have h1:=am5 M (kn M) (kn M).length;rw[List.take_length]at h1;have h2:=abz M;rw[aqa];omega
theorem aza(M:List Stm):(x7 M).length<=1+M.length:=by
 have h1:=ab5 M;have h2:=aie M;unfold x7;split
 ·rw[List.length_append,ada,ada];omega
 ·simp
theorem zd(L:List Stm): ∀i,(ms L i).length<=i*(1+L.length)
 |0=>by simp[ab4]
 |i+1=>by
  have h1:=zd L i;have h2:=aza (jm L i);have h3:=vn L i;rw[ab2,List.length_append,Nat.add_mul,Nat.one_mul];omega
theorem a6u{L:List Stm}{a:Int}(h:CF L){s:Stm}(hs:s∈jm L a):s∈L:=(io.1 (((z6 (a:=a) h).2 s).1 hs)).1
theorem a52(L:List Stm)(hl:L.length<=900)(hs: ∀s∈L,adv s)(h:CF L):Den Tryz.prog 79 [.vs (L.map sm)] [] (.vs ((ms L 64).map pf)) [] []:=by
 refine aa Tryz.func79 rfl Tryz.call79 Tryz.ntmps79 Tryz.results79 (by simp) (by kernel_rfl) [] (exts:=[]) rfl rfl ?_;have co:=fun a:Nat=>bcw L a (by omega) hs h;have cf:=fun a:Nat=>axu (jm L a) (by have:=vn L a;simp only[big];omega);have cd:=fun a:Nat=>aky (jm L a) (by have:=vn L a;omega) fun s hm=>hs s (a6u h hm);have hln:=fun a:Nat=>vn L a;have hsu:=ab2 L;have hxl:=zd L;have hf1:=fun a:Nat=>ab5 (jm L a);have hd1:=fun a:Nat=>aie (jm L a);simp only[go_sem];refine da 3 99 138 27 false ?_ ?_ ?_ (by omega)
 ·refine loop Tryz.mixed 0 (fun i:Nat=>[(0,.vs (L.map sm)),(3,.os 99 (ms L i).length),(6,.int .i64 i)]) (fun i=>[(99,.arr 138 27 false ((ms L i).map pf))]) (fun i=>i<=64) (fun i=>64 - i) (by kernel_rfl) (Nat.zero_le _) ?_ ?_
  ·simp only[go_sem,ab4,List.map_nil,List.length_nil]
  ·intro i hi;by_cases hlt:i<64
   ·have h1:(i:Int)<64:=by omega
    have co:=co i;have cf:=cf i;have cd:=cd i;have hln:=hln i;have hsu:=hsu i;have hf1:=hf1 i;have hd1:=hd1 i;have hxl:=hxl i;have hmul:i*(1+L.length)<=64*901:=Nat.mul_le_mul (by omega) (by omega);have hA:x7 (jm L i)=if 1<(jm L i).length then pfs 1 (fx (jm L i))++pfs 2 (ajp (jm L i))else []:=rfl
    generalize jm L i=M at*;have p1:=ada 1 (fx M);have p2:=ada 2 (ajp M);generalize pfs 1 (fx M)=A at*;generalize pfs 2 (ajp M)=B at*;generalize ms L i=o at*;simp only[go_sem,h1];refine call co [] ?_;by_cases h2:1<(M.length:Int)
    ·rw[if_pos (by omega)]at hA;rw[hA]at hsu;simp only[go_sem,h2];refine call cf [] ?_;simp only[go_sem];refine⟨by omega,call cd [] ?_⟩;simp only[go_sem];refine⟨by omega,i+1,⟨by omega,by omega⟩,?_⟩;rw[hsu];exact⟨⟨by simp only[List.length_append];omega,by rw[ae]<;>omega⟩,by simp only[List.map_append,List.append_assoc]⟩
    ·rw[if_neg (by omega)]at hA;rw[hA,List.append_nil]at hsu;simp only[go_sem,h2];refine⟨i+1,⟨by omega,by omega⟩,?_⟩;rw[hsu];exact⟨⟨rfl,by rw[ae]<;>omega⟩,rfl⟩
   ·have h1: ¬(i:Int)<64:=by omega
    have:i=64:=by omega
    subst this;simp only[go_sem,h1]
 ·simp only[go_sem]
 ·simp only[go_sem]
theorem amd(p:Int×Stm×Stm):Den Tryz.prog 80 [.agg (pf p)] [] (.int .i64 p.2.1.au) [] []:=by
 refine aa Tryz.func80 rfl Tryz.call80 Tryz.ntmps80 Tryz.results80 (by simp) (by kernel_rfl) [] (exts:=[]) rfl rfl ?_;simp only[go_sem]
theorem atg(L:List Stm)(hl:L.length<=900)(hs: ∀s∈L,adv s)(h:CF L):Den Tryz.prog 48 [.vs (L.map sm)] [] (.vs ((avv L).map i1)) [] []:=by
 refine aa Tryz.func48 rfl Tryz.call48 Tryz.ntmps48 Tryz.results48 (by simp) (by kernel_rfl) [] (exts:=[]) rfl rfl ?_;have c1:=a52 L hl hs h;have hxl:=zd L 64;have hmul:64*(1+L.length)<=64*901:=Nat.mul_le_mul (by omega) (by omega);have hg:avv L=a3b ((ms L 64).map fun p=>p.2.1.au):=rfl;rw[hg];generalize ms L 64=F at*;obtain⟨I,hI⟩: ∃I:Nat->List Int,I=fun i=>(F.take i).map fun p=>p.2.1.au:=⟨_,rfl⟩;have hI0:I 0=[]:=by rw[hI];rfl
 have hsu: ∀i,i<F.length->I (i+1)=I i++[(el F i).2.1.au]:=fun i hi=>by
  rw[hI];show(F.take (i+1)).map _=_;rw[cu hi,List.map_append,List.map_singleton]
 have hln: ∀i,(I i).length<=F.length:=fun i=>by rw[hI];show((F.take i).map _).length<=_;rw[List.length_map,List.length_take];omega
 have hIl:F.map (fun p=>p.2.1.au)=I F.length:=by rw[hI];show _=(F.take F.length).map _;rw[List.take_length]
 rw[hIl];clear hI hIl;simp only[go_sem];refine call c1 [] ?_;simp only[go_sem];refine da 3 99 3 1 false ?_ ?_ ?_ (by omega)
 ·refine loop Tryz.mixed 0 (fun i:Nat=>[(3,.os 99 (I i).length),(7,.vs (F.map pf)),(8,.int .i64 F.length),(9,.int .i64 i)]) (fun i=>[(99,.arr 3 1 false ((I i).map i1))]) (fun i=>i<=F.length) (fun i=>F.length - i) (by kernel_rfl) (Nat.zero_le _) ?_ ?_
  ·rw[hI0];simp only[go_sem,List.map_nil,List.length_nil]
  ·intro i hi;by_cases hlt:i<F.length
   ·have h1:(i:Int)<(F.length:Int):=by omega
    have hsu:=hsu i hlt;have hln:=hln i;have ca:=amd (el F i);rw[bef]at ca;generalize I i=o at*;simp only[go_sem,h1,hlt];refine call ca [] ?_;simp only[go_sem];refine⟨by omega,i+1,⟨by omega,by omega⟩,?_⟩;rw[hsu];exact⟨⟨by simp,by rw[ae]<;>omega⟩,by simp[i1]⟩
   ·have h1: ¬(i:Int)<(F.length:Int):=by omega
    have:i=F.length:=by omega
    subst this;have hln:=hln F.length;generalize I F.length=o at*;have cc:=xe o (by omega);simp only[go_sem,h1];refine call cc [99] ?_;simp only[go_sem];rw[aev];exact Nat.le_refl _
 ·simp only[go_sem]
 ·simp only[go_sem]
end Go.Proofs.Am
