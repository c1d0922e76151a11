/- UFour. -/
import Derived.Test.YteakcpfdfglndaaGreatDoorVTwo
import Derived.Test.YteakcpfdfglndaaGreatDoorCNine
import Derived.Test.YteakcpfdfglndaaGreatDoorEOne
import Derived.Test.YteakcpfdfglndaaGreatDoorUOne
set_option linter.unusedSimpArgs false
set_option linter.unusedVariables false
namespace Go.Proofs.Am
open Go Go.RowKit
open Go.Proofs
def qr(c:Cs):Cs:={c with ro:=1}
def ul(r:Rl)(L:List Stm)(t:Tm)(c:Cs):Ct×Bool:=
 if ja L t c=true∧(et r L t (qr c)).2.2=0 then((et r L t (qr c)).1,(et r L t (qr c)).2.1)else(noC,false)
def rf(r:Rl)(L:List Stm)(t:Tm)(c:Cs):Ct×Bool×Int:=
 if dl c=true∧c.ro=0 then
  if(et r L t c).2.2≠0 then(noC,false,(et r L t c).2.2)
  else if(ul r L t c).2=true then((ul r L t c).1,true,0)else((et r L t c).1,(et r L t c).2.1,0)
 else(noC,false,41)
theorem ajd{r:Rl}{L:List Stm}{t:Tm}{c:Cs}(hr:dp r=0)(ht:OkT t)(hc:dl c=true)(he:c.ep=t.ep):
  ((ay r t c).2=0∧ckS c (ay r t c).1=0∧et r L t c=(yv (va L c (ay r t c).1),decide ((va L c (ay r t c).1).length=1),0))∨
  ((ay r t c).2=44∧et r L t c=(noC,false,44)):=by
 obtain⟨h1,_,_,h4⟩:=arb hr ht hc he
 rw[←afv ht.bea]at h1 h4
 rcases h1 with h1|h1
 ·refine .inl ⟨h1,h4 h1,?_⟩
  unfold et
  rw[if_neg (by simp[h1]),h4 h1]
 ·refine .inr ⟨h1,?_⟩
  unfold et
  rw[if_pos (by simp[h1]),h1]
theorem pp{r:Rl}{t:Tm}{c:Cs}(hr:dp r=0)(ht:OkT t)(hc:dl c=true)(he:c.ep=t.ep)(h0:c.ro=0):(ay r t c).2=0:=by
 rw[afv ht.bea,a6f hr ht hc he h0]
def gv(t:Tm)(kd k:Int):Cs:=⟨t.ep,kd,k,0⟩
def jc(r:Rl)(L:List Stm)(t:Tm)(kd k:Int):Bool:=(rf r L t (gv t kd k)).2.1&&decide ((rf r L t (gv t kd k)).1.li=[1])
def y3(L:List Stm)(c:Cs):Bool:=(f9 L).any fun x=>decide (x.ep=c.ep)&&(decide (x.kd=c.kd)&&decide (x.su=c.su))
theorem af6{L:List Stm}{c d:Cs}(h:y3 L c=false)(h1:d.ep=c.ep)(h2:d.kd=c.kd)(h3:d.su=c.su): ∀s∈L,okV d s=false:=fun s hs=>by
 cases ho:okV d s with
 |false=>rfl
 |true=>
  obtain⟨v1,v2⟩:=Bool.and_eq_true_iff.1 ho
  have hm:d∈f9 L:=aae.2 ⟨s,hs,v1,of_decide_eq_true v2⟩
  have:y3 L c=true:=List.any_eq_true.2 ⟨d,hm,by simp[h1,h2,h3]⟩
  rw[h]at this
  cases this
theorem wq{r:Rl}{L:List Stm}{t:Tm}{c:Cs}(h: ∀s∈L,okV c s=false):(et r L t c).2.1=false:=by
 have hA: ∀S,va L c S=[]:=fun S=>by
  unfold va
  split
  ·refine List.eq_nil_iff_forall_not_mem.2 fun u hu=> ?_
   obtain⟨n,hn,_,_⟩:=ame.1 hu
   have hk:n.ks≠[]:=(vd _ _).r4 n hn
   obtain⟨k,ks,hk⟩:=List.exists_cons_of_ne_nil hk
   obtain⟨_,y,hy,_,_⟩:=akq hn (k:=k) (by rw[hk];simp)
   obtain⟨s,s1,s2,_⟩:=fl.1 hy
   rw[h s s1]at s2
   cases s2
  ·rfl
 unfold et
 split
 ·rfl
 ·rw[hA];rfl
theorem ahe{r:Rl}{L:List Stm}{t:Tm}{kd k:Int}(h:y3 L (gv t kd k)=false):(rf r L t (gv t kd k)).2.1=false:=by
 have h1:=wq (r:=r) (t:=t) (af6 (d:=gv t kd k) h rfl rfl rfl)
 have h2:=wq (r:=r) (t:=t) (af6 (d:=qr (gv t kd k)) h rfl rfl rfl)
 have h3:(ul r L t (gv t kd k)).2=false:=by
  unfold ul
  split
  ·exact h2
  ·rfl
 unfold rf
 split
 ·split
  ·rfl
  ·rw[h3,if_neg (by simp)]
   exact h1
 ·rfl
def awj(t:Tm):Int:=if 0≤t.ep∧t.ep<40 then(if t.bea.length=32 then 0 else 1)else 41
theorem aib{r:Rl}{L:List Stm}{t:Tm}{kd k:Int}(hr:dp r=0)(hv:i8 t.ros=true)(hk:0≤k∧k<64)(hkd:kd=2∨kd=3):(rf r L t (gv t kd k)).2.2=awj t:=by
 by_cases he:0≤t.ep∧t.ep<40
 ·have hc:dl (gv t kd k)=true:=kj ⟨he.1,he.2,hk.1,hk.2,by simp[gv],by simp[gv],.inr hkd⟩
  have hd:(et r L t (gv t kd k)).2.2=awj t:=by
   unfold awj
   rw[if_pos he]
   by_cases hb:t.bea.length=32
   ·rw[if_pos hb]
    have ht:OkT t:=⟨he.1,he.2,hv,hb⟩
    have hz:=pp hr ht hc rfl (by rfl)
    rcases ajd (L:=L) hr ht hc rfl with ⟨_,_,s3⟩|⟨s1,_⟩
    ·rw[s3]
    ·rw[hz]at s1;cases s1
   ·rw[if_neg hb]
    have hs:ay r t (gv t kd k)=([],1):=by
     unfold ay ofG
     rw[if_neg (by simp[gv]),if_pos ⟨hr,hv,hc,hb⟩]
    unfold et
    rw[hs,if_pos (by simp)]
  unfold rf
  rw[if_pos ⟨hc,rfl⟩]
  by_cases h0:awj t=0
  ·rw[if_neg (by simp[hd,h0])]
   rw[h0]
   split<;>rfl
  ·rw[if_pos (by simpa [hd] using h0)]
   exact hd
 ·have hc: ¬dl (gv t kd k)=true:=fun h=>by
   have:=of_decide_eq_true h
   exact he ⟨this.1,this.2.1⟩
  unfold rf awj
  rw[if_neg (fun h=>hc h.1),if_neg he]
theorem aps{r:Rl}{L:List Stm}{t:Tm}{kd k:Int}(h:jc r L t kd k=true):y3 L (gv t kd k)=true:=by
 cases hs:y3 L (gv t kd k)with
 |true=>rfl
 |false=>
  unfold jc at h
  rw[ahe (r:=r) hs,Bool.false_and]at h
  cases h
def arm(r:Rl)(L:List Stm)(t:Tm)(kd:Int)(keys:List Int)(i:Nat):List Int:=(keys.take i).filter fun k=>jc r L t kd k
theorem atw(r:Rl)(L:List Stm)(t:Tm)(kd:Int)(keys:List Int):arm r L t kd keys 0=[]:=rfl
theorem agy{r:Rl}{L:List Stm}{t:Tm}{kd:Int}{keys:List Int}{i:Nat}(h:i<keys.length):
  arm r L t kd keys (i+1)=arm r L t kd keys i++(if jc r L t kd (el keys i)=true then [el keys i]else []):=by
 unfold arm
 rw[bh h,List.filter_append]
 congr 1
 simp only[List.filter_cons,List.filter_nil]
theorem aud{r:Rl}{L:List Stm}{t:Tm}{kd:Int}{keys:List Int}{i:Nat}(h:i<keys.length)(hs:y3 L (gv t kd (el keys i))=false):arm r L t kd keys (i+1)=arm r L t kd keys i:=by
 rw[agy h,if_neg (fun hh=>by rw[aps hh]at hs;cases hs),List.append_nil]
theorem yesD_all{r:Rl}{L:List Stm}{t:Tm}{kd:Int}{keys:List Int}:arm r L t kd keys keys.length=keys.filter fun k=>jc r L t kd k:=by
 unfold arm
 rw[List.take_length]
def qm(r:Rl)(t:Tm):Int:=if dp r≠0 then dp r else if i8 t.ros=false then 43 else awj t
theorem a16{r:Rl}{L:List Stm}{t:Tm}{kd:Int}{keys:List Int}{i:Nat}:(arm r L t kd keys i).length≤keys.length:=by
 have h1:=List.length_filter_le (fun k=>jc r L t kd k) (keys.take i)
 have h2:(keys.take i).length≤keys.length:=by rw[List.length_take];omega
 unfold arm
 omega
end Go.Proofs.Am
