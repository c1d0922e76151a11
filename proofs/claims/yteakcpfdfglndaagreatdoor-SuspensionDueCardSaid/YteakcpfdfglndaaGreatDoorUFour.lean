/- UFour. -/
import Derived.Test.YteakcpfdfglndaaGreatDoorVTwo
import Derived.Test.YteakcpfdfglndaaGreatDoorC9
import Derived.Test.YteakcpfdfglndaaGreatDoorEOne
import Derived.Test.YteakcpfdfglndaaGreatDoorUOne
set_option linter.unusedSimpArgs false
set_option linter.unusedVariables false
namespace Go.Proofs.Am
open Go Go.RowKit
open Go.Proofs
def x6(c:Cs):Cs:={c with ro:=1}
def aet(r:Rl)(L:List Stm)(t:Tm)(c:Cs):Ct×Bool:=
 if lr L t c=true∧(ga r L t (x6 c)).2.2=0 then((ga r L t (x6 c)).1,(ga r L t (x6 c)).2.1)else(noC,false)
def xt(r:Rl)(L:List Stm)(t:Tm)(c:Cs):Ct×Bool×Int:=
 if dq c=true∧c.ro=0 then
  if(ga r L t c).2.2≠0 then(noC,false,(ga r L t c).2.2)
  else if(aet r L t c).2=true then((aet r L t c).1,true,0)else((ga r L t c).1,(ga r L t c).2.1,0)
 else(noC,false,41)
theorem pe{c:Cs}:ke c=true↔dq c=true∧c.ro=0∧c.kd≠1:=by
 simp[ke,and_assoc]
theorem v6{r:Rl}{L:List Stm}{t:Tm}{c:Cs}(hr:dw r=0)(ht:OkT t)(hc:dq c=true)(he:c.ep=t.ep):
  ((am r t c).2=0∧ckS c (am r t c).1=0∧ga r L t c=(ags (aal L c (am r t c).1),decide ((aal L c (am r t c).1).length=1),0))∨
  ((am r t c).2=44∧ga r L t c=(noC,false,44)):=by
 obtain⟨h1,_,_,h4⟩:=al9 hr ht hc he
 rw[←ae7 ht.bea]at h1 h4
 rcases h1 with h1|h1
 ·refine .inl ⟨h1,h4 h1,?_⟩
  unfold ga
  rw[if_neg (by simp[h1]),h4 h1]
 ·refine .inr ⟨h1,?_⟩
  unfold ga
  rw[if_pos (by simp[h1]),h1]
theorem jd{r:Rl}{t:Tm}{c:Cs}(hr:dw r=0)(ht:OkT t)(hc:dq c=true)(he:c.ep=t.ep)(h0:c.ro=0):(am r t c).2=0:=by
 rw[ae7 ht.bea,a5d hr ht hc he h0]
theorem ahq{r:Rl}{L:List Stm}{t:Tm}{c:Cs}(hc:dq c=true)(hro:c.ro=0)(ha:lr L t c=false):aet r L t c=(noC,false)∧xt r L t c=(if(ga r L t c).2.2≠0 then(noC,false,(ga r L t c).2.2)else ga r L t c):=by
 have hs:aet r L t c=(noC,false):=by
  unfold aet
  rw[if_neg (by simp[ha])]
 refine⟨hs,?_⟩
 unfold xt
 rw[if_pos ⟨hc,hro⟩,hs]
 split
 ·rfl
 ·rename_i h
  have h:(ga r L t c).2.2=0:=by simpa using h
  rw[if_neg (by simp)]
  rw[←h]
def jr(t:Tm)(kd k:Int):Cs:=⟨t.ep,kd,k,0⟩
def ny(r:Rl)(L:List Stm)(t:Tm)(kd k:Int):Bool:=(xt r L t (jr t kd k)).2.1&&decide ((xt r L t (jr t kd k)).1.li=[1])
def aid(L:List Stm)(c:Cs):Bool:=(fx L).any fun x=>decide (x.ep=c.ep)&&(decide (x.kd=c.kd)&&decide (x.su=c.su))
theorem afi{L:List Stm}{c d:Cs}(h:aid L c=false)(h1:d.ep=c.ep)(h2:d.kd=c.kd)(h3:d.su=c.su): ∀s∈L,okV d s=false:=fun s hs=>by
 cases ho:okV d s with
 |false=>rfl
 |true=>
  obtain⟨v1,v2⟩:=Bool.and_eq_true_iff.1 ho
  have hm:d∈fx L:=qi.2 ⟨s,hs,v1,of_decide_eq_true v2⟩
  have:aid L c=true:=List.any_eq_true.2 ⟨d,hm,by simp[h1,h2,h3]⟩
  rw[h]at this
  cases this
theorem p6{r:Rl}{L:List Stm}{t:Tm}{c:Cs}(h: ∀s∈L,okV c s=false):(ga r L t c).2.1=false:=by
 have hA: ∀S,aal L c S=[]:=fun S=>by
  unfold aal
  split
  ·refine List.eq_nil_iff_forall_not_mem.2 fun u hu=> ?_
   obtain⟨n,hn,_,_⟩:=s8.1 hu
   have hk:n.ks≠[]:=(eu _ _).r4 n hn
   obtain⟨k,ks,hk⟩:=List.exists_cons_of_ne_nil hk
   obtain⟨_,y,hy,_,_⟩:=aas hn (k:=k) (by rw[hk];simp)
   obtain⟨s,s1,s2,_⟩:=bo.1 hy
   rw[h s s1]at s2
   cases s2
  ·rfl
 unfold ga
 split
 ·rfl
 ·rw[hA];rfl
theorem aeq{r:Rl}{L:List Stm}{t:Tm}{kd k:Int}(h:aid L (jr t kd k)=false):(xt r L t (jr t kd k)).2.1=false:=by
 have h1:=p6 (r:=r) (t:=t) (afi (d:=jr t kd k) h rfl rfl rfl)
 have h2:=p6 (r:=r) (t:=t) (afi (d:=x6 (jr t kd k)) h rfl rfl rfl)
 have h3:(aet r L t (jr t kd k)).2=false:=by
  unfold aet
  split
  ·exact h2
  ·rfl
 unfold xt
 split
 ·split
  ·rfl
  ·rw[h3,if_neg (by simp)]
   exact h1
 ·rfl
def a4u(t:Tm):Int:=if 0≤t.ep∧t.ep<40 then(if t.bea.length=32 then 0 else 1)else 41
theorem a29{r:Rl}{L:List Stm}{t:Tm}{kd k:Int}(hr:dw r=0)(hv:ju t.ros=true)(hk:0≤k∧k<64)(hkd:kd=2∨kd=3):(xt r L t (jr t kd k)).2.2=a4u t:=by
 by_cases he:0≤t.ep∧t.ep<40
 ·have hc:dq (jr t kd k)=true:=lq ⟨he.1,he.2,hk.1,hk.2,by simp[jr],by simp[jr],.inr hkd⟩
  have hd:(ga r L t (jr t kd k)).2.2=a4u t:=by
   unfold a4u
   rw[if_pos he]
   by_cases hb:t.bea.length=32
   ·rw[if_pos hb]
    have ht:OkT t:=⟨he.1,he.2,hv,hb⟩
    have hz:=jd hr ht hc rfl (by rfl)
    rcases v6 (L:=L) hr ht hc rfl with ⟨_,_,s3⟩|⟨s1,_⟩
    ·rw[s3]
    ·rw[hz]at s1;cases s1
   ·rw[if_neg hb]
    have hs:am r t (jr t kd k)=([],1):=by
     unfold am ofG
     rw[if_neg (by simp[jr]),if_pos ⟨hr,hv,hc,hb⟩]
    unfold ga
    rw[hs,if_pos (by simp)]
  unfold xt
  rw[if_pos ⟨hc,rfl⟩]
  by_cases h0:a4u t=0
  ·rw[if_neg (by simp[hd,h0])]
   rw[h0]
   split<;>rfl
  ·rw[if_pos (by simpa [hd] using h0)]
   exact hd
 ·have hc: ¬dq (jr t kd k)=true:=fun h=>by
   have:=of_decide_eq_true h
   exact he ⟨this.1,this.2.1⟩
  unfold xt a4u
  rw[if_neg (fun h=>hc h.1),if_neg he]
theorem aw7{c:Cs}{S:List Int}{nu:Int}{x:Ct}{A E:List Stm}(hk:ckS c S=0)(hn:0≤nu∧nu≤199)(hx:cz c x=true)(h: ∀s,s∈A↔(s∈dh c nu x S∨s∈E))(hE: ∀s∈E,okV c s=false):aal A c S=[x]:=by
 have hP:=EndP.of hk
 unfold aal
 rw[if_pos hk,apf c (m:=dh c nu x S++E) fun s=>by rw[h,List.mem_append],asq fun s hs ho=>by rw[hE s hs]at ho;cases ho]
 exact asl (aoo _ _) (awd hP hn hx fun _ h=>h) fun u hu=>by
  obtain⟨s,h1,_,h3⟩:=aym hu
  rw[←h3,(af5 (d:=c) hP hn hx h1).1]
end Go.Proofs.Am
