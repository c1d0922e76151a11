/- UFour. -/
import Derived.Test.YteakcpfdfglndaaGreatDoorVTwo
import Derived.Test.YteakcpfdfglndaaGreatDoorC9
import Derived.Test.YteakcpfdfglndaaGreatDoorEOne
import Derived.Test.YteakcpfdfglndaaGreatDoorUOne
set_option linter.unusedSimpArgs false
set_option linter.unusedVariables false
namespace Go.Proofs.Am
open Go Go.RowKit
open Go.Proofs
def x5(c:Cs):Cs:={c with ro:=1}
def ad8(r:Rl)(L:List Stm)(t:Tm)(c:Cs):Ct×Bool:=
 if lu L t c=true∧(gh r L t (x5 c)).2.2=0 then((gh r L t (x5 c)).1,(gh r L t (x5 c)).2.1)else(noC,false)
def ya(r:Rl)(L:List Stm)(t:Tm)(c:Cs):Ct×Bool×Int:=
 if dq c=true∧c.ro=0 then
  if(gh r L t c).2.2≠0 then(noC,false,(gh r L t c).2.2)
  else if(ad8 r L t c).2=true then((ad8 r L t c).1,true,0)else((gh r L t c).1,(gh r L t c).2.1,0)
 else(noC,false,41)
theorem o7{c:Cs}:ky c=true↔dq c=true∧c.ro=0∧c.kd≠1:=by
 simp[ky,and_assoc]
theorem un{r:Rl}{L:List Stm}{t:Tm}{c:Cs}(hr:du r=0)(ht:OkT t)(hc:dq c=true)(he:c.ep=t.ep):
  ((am r t c).2=0∧ckS c (am r t c).1=0∧gh r L t c=(aja (abk L c (am r t c).1),decide ((abk L c (am r t c).1).length=1),0))∨
  ((am r t c).2=44∧gh r L t c=(noC,false,44)):=by
 obtain⟨h1,_,_,h4⟩:=anm hr ht hc he
 rw[←af7 ht.bea]at h1 h4
 rcases h1 with h1|h1
 ·refine .inl ⟨h1,h4 h1,?_⟩
  unfold gh
  rw[if_neg (by simp[h1]),h4 h1]
 ·refine .inr ⟨h1,?_⟩
  unfold gh
  rw[if_pos (by simp[h1]),h1]
theorem jg{r:Rl}{t:Tm}{c:Cs}(hr:du r=0)(ht:OkT t)(hc:dq c=true)(he:c.ep=t.ep)(h0:c.ro=0):(am r t c).2=0:=by
 rw[af7 ht.bea,a5y hr ht hc he h0]
theorem ag3{r:Rl}{L:List Stm}{t:Tm}{c:Cs}(hc:dq c=true)(hro:c.ro=0)(ha:lu L t c=false):ad8 r L t c=(noC,false)∧ya r L t c=(if(gh r L t c).2.2≠0 then(noC,false,(gh r L t c).2.2)else gh r L t c):=by
 have hs:ad8 r L t c=(noC,false):=by
  unfold ad8
  rw[if_neg (by simp[ha])]
 refine⟨hs,?_⟩
 unfold ya
 rw[if_pos ⟨hc,hro⟩,hs]
 split
 ·rfl
 ·rename_i h
  have h:(gh r L t c).2.2=0:=by simpa using h
  rw[if_neg (by simp)]
  rw[←h]
def jp(t:Tm)(kd k:Int):Cs:=⟨t.ep,kd,k,0⟩
def nz(r:Rl)(L:List Stm)(t:Tm)(kd k:Int):Bool:=(ya r L t (jp t kd k)).2.1&&decide ((ya r L t (jp t kd k)).1.li=[1])
def ail(L:List Stm)(c:Cs):Bool:=(fy L).any fun x=>decide (x.ep=c.ep)&&(decide (x.kd=c.kd)&&decide (x.su=c.su))
theorem afx{L:List Stm}{c d:Cs}(h:ail L c=false)(h1:d.ep=c.ep)(h2:d.kd=c.kd)(h3:d.su=c.su): ∀s∈L,okV d s=false:=fun s hs=>by
 cases ho:okV d s with
 |false=>rfl
 |true=>
  obtain⟨v1,v2⟩:=Bool.and_eq_true_iff.1 ho
  have hm:d∈fy L:=qq.2 ⟨s,hs,v1,of_decide_eq_true v2⟩
  have:ail L c=true:=List.any_eq_true.2 ⟨d,hm,by simp[h1,h2,h3]⟩
  rw[h]at this
  cases this
theorem pt{r:Rl}{L:List Stm}{t:Tm}{c:Cs}(h: ∀s∈L,okV c s=false):(gh r L t c).2.1=false:=by
 have hA: ∀S,abk L c S=[]:=fun S=>by
  unfold abk
  split
  ·refine List.eq_nil_iff_forall_not_mem.2 fun u hu=> ?_
   obtain⟨n,hn,_,_⟩:=td.1 hu
   have hk:n.ks≠[]:=(ez _ _).r4 n hn
   obtain⟨k,ks,hk⟩:=List.exists_cons_of_ne_nil hk
   obtain⟨_,y,hy,_,_⟩:=aa0 hn (k:=k) (by rw[hk];simp)
   obtain⟨s,s1,s2,_⟩:=bo.1 hy
   rw[h s s1]at s2
   cases s2
  ·rfl
 unfold gh
 split
 ·rfl
 ·rw[hA];rfl
theorem aej{r:Rl}{L:List Stm}{t:Tm}{kd k:Int}(h:ail L (jp t kd k)=false):(ya r L t (jp t kd k)).2.1=false:=by
 have h1:=pt (r:=r) (t:=t) (afx (d:=jp t kd k) h rfl rfl rfl)
 have h2:=pt (r:=r) (t:=t) (afx (d:=x5 (jp t kd k)) h rfl rfl rfl)
 have h3:(ad8 r L t (jp t kd k)).2=false:=by
  unfold ad8
  split
  ·exact h2
  ·rfl
 unfold ya
 split
 ·split
  ·rfl
  ·rw[h3,if_neg (by simp)]
   exact h1
 ·rfl
def a5m(t:Tm):Int:=if 0≤t.ep∧t.ep<40 then(if t.bea.length=32 then 0 else 1)else 41
theorem a40{r:Rl}{L:List Stm}{t:Tm}{kd k:Int}(hr:du r=0)(hv:j7 t.ros=true)(hk:0≤k∧k<64)(hkd:kd=2∨kd=3):(ya r L t (jp t kd k)).2.2=a5m t:=by
 by_cases he:0≤t.ep∧t.ep<40
 ·have hc:dq (jp t kd k)=true:=lp ⟨he.1,he.2,hk.1,hk.2,by simp[jp],by simp[jp],.inr hkd⟩
  have hd:(gh r L t (jp t kd k)).2.2=a5m t:=by
   unfold a5m
   rw[if_pos he]
   by_cases hb:t.bea.length=32
   ·rw[if_pos hb]
    have ht:OkT t:=⟨he.1,he.2,hv,hb⟩
    have hz:=jg hr ht hc rfl (by rfl)
    rcases un (L:=L) hr ht hc rfl with ⟨_,_,s3⟩|⟨s1,_⟩
    ·rw[s3]
    ·rw[hz]at s1;cases s1
   ·rw[if_neg hb]
    have hs:am r t (jp t kd k)=([],1):=by
     unfold am ofG
     rw[if_neg (by simp[jp]),if_pos ⟨hr,hv,hc,hb⟩]
    unfold gh
    rw[hs,if_pos (by simp)]
  unfold ya
  rw[if_pos ⟨hc,rfl⟩]
  by_cases h0:a5m t=0
  ·rw[if_neg (by simp[hd,h0])]
   rw[h0]
   split<;>rfl
  ·rw[if_pos (by simpa [hd] using h0)]
   exact hd
 ·have hc: ¬dq (jp t kd k)=true:=fun h=>by
   have:=of_decide_eq_true h
   exact he ⟨this.1,this.2.1⟩
  unfold ya a5m
  rw[if_neg (fun h=>hc h.1),if_neg he]
theorem azw{c:Cs}{S:List Int}{nu:Int}{x:Ct}{A E:List Stm}(hk:ckS c S=0)(hn:0≤nu∧nu≤199)(hx:cz c x=true)(h: ∀s,s∈A↔(s∈da c nu x S∨s∈E))(hE: ∀s∈E,okV c s=false):abk A c S=[x]:=by
 have hP:=EndP.of hk
 unfold abk
 rw[if_pos hk,aos c (m:=da c nu x S++E) fun s=>by rw[h,List.mem_append],aqb fun s hs ho=>by rw[hE s hs]at ho;cases ho]
 exact auo (am4 _ _) (aua hP hn hx fun _ h=>h) fun u hu=>by
  obtain⟨s,h1,_,h3⟩:=aw0 hu
  rw[←h3,(afq (d:=c) hP hn hx h1).1]
end Go.Proofs.Am
