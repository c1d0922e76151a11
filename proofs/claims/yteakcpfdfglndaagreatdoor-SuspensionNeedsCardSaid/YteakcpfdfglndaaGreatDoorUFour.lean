/- UFour. -/
import Derived.Test.YteakcpfdfglndaaGreatDoorVTwo
import Derived.Test.YteakcpfdfglndaaGreatDoorCNine
import Derived.Test.YteakcpfdfglndaaGreatDoorEOne
import Derived.Test.YteakcpfdfglndaaGreatDoorUOne
set_option linter.unusedSimpArgs false
set_option linter.unusedVariables false
namespace Go.Proofs.Am
open Go Go.RowKit
open Go.Proofs
def l8(c:Cs):Cs:={c with ro:=1}
def aht(r:Rl)(L:List Stm)(t:Tm)(c:Cs):Ct×Bool:=
 if qh L t c=true∧(fh r L t (l8 c)).2.2=0 then((fh r L t (l8 c)).1,(fh r L t (l8 c)).2.1)else(noC,false)
def aax(r:Rl)(L:List Stm)(t:Tm)(c:Cs):Ct×Bool×Int:=
 if dh c=true∧c.ro=0 then
  if(fh r L t c).2.2≠0 then(noC,false,(fh r L t c).2.2)
  else if(aht r L t c).2=true then((aht r L t c).1,true,0)else((fh r L t c).1,(fh r L t c).2.1,0)
 else(noC,false,41)
theorem aeu{c:Cs}:m5 c=true↔dh c=true∧c.ro=0∧c.kd≠1:=by
 simp[m5,and_assoc]
theorem a4m{c:Cs}(h:m5 c=true):dh (l8 c)=true:=by
 obtain⟨h1,h2,h3⟩:=aeu.1 h
 have:=of_decide_eq_true h1
 refine jl ⟨this.1,this.2.1,this.2.2.1,this.2.2.2.1,by simp[l8],by simp[l8],?_⟩
 have h4:=this.2.2.2.2.2.2
 show c.kd=1∧c.su=0∧(1:Int)=0∨c.kd=2∨c.kd=3
 omega
theorem ar9{r:Rl}{L:List Stm}{t:Tm}{c:Cs}(hr:d6 r=0)(ht:OkT t)(hc:dh c=true)(he:c.ep=t.ep):
  ((av r t c).2=0∧ckS c (av r t c).1=0∧fh r L t c=(yl (ya L c (av r t c).1),decide ((ya L c (av r t c).1).length=1),0))∨
  ((av r t c).2=44∧fh r L t c=(noC,false,44)):=by
 obtain⟨h1,_,_,h4⟩:=ans hr ht hc he
 rw[←vp ht.bea]at h1 h4
 rcases h1 with h1|h1
 ·refine .inl ⟨h1,h4 h1,?_⟩
  unfold fh
  rw[if_neg (by simp[h1]),h4 h1]
 ·refine .inr ⟨h1,?_⟩
  unfold fh
  rw[if_pos (by simp[h1]),h1]
theorem uz{r:Rl}{t:Tm}{c:Cs}(hr:d6 r=0)(ht:OkT t)(hc:dh c=true)(he:c.ep=t.ep)(h0:c.ro=0):(av r t c).2=0:=by
 rw[vp ht.bea,a7o hr ht hc he h0]
def iv(t:Tm)(kd k:Int):Cs:=⟨t.ep,kd,k,0⟩
def oe(r:Rl)(L:List Stm)(t:Tm)(kd k:Int):Bool:=(aax r L t (iv t kd k)).2.1&&decide ((aax r L t (iv t kd k)).1.li=[1])
def ave(L:List Stm)(c:Cs):Bool:=(fu L).any fun x=>decide (x.ep=c.ep)&&(decide (x.kd=c.kd)&&decide (x.su=c.su))
theorem af0{L:List Stm}{c d:Cs}(h:ave L c=false)(h1:d.ep=c.ep)(h2:d.kd=c.kd)(h3:d.su=c.su): ∀s∈L,okV d s=false:=fun s hs=>by
 cases ho:okV d s with
 |false=>rfl
 |true=>
  obtain⟨v1,v2⟩:=Bool.and_eq_true_iff.1 ho
  have hm:d∈fu L:=aae.2 ⟨s,hs,v1,of_decide_eq_true v2⟩
  have:ave L c=true:=List.any_eq_true.2 ⟨d,hm,by simp[h1,h2,h3]⟩
  rw[h]at this
  cases this
theorem v8{r:Rl}{L:List Stm}{t:Tm}{c:Cs}(h: ∀s∈L,okV c s=false):(fh r L t c).2.1=false:=by
 have hA: ∀S,ya L c S=[]:=fun S=>by
  unfold ya
  split
  ·refine List.eq_nil_iff_forall_not_mem.2 fun u hu=> ?_
   obtain⟨n,hn,_,_⟩:=amg.1 hu
   have hk:n.ks≠[]:=(tz _ _).r4 n hn
   obtain⟨k,ks,hk⟩:=List.exists_cons_of_ne_nil hk
   obtain⟨_,y,hy,_,_⟩:=ajb hn (k:=k) (by rw[hk];simp)
   obtain⟨s,s1,s2,_⟩:=fc.1 hy
   rw[h s s1]at s2
   cases s2
  ·rfl
 unfold fh
 split
 ·rfl
 ·rw[hA];rfl
theorem atl{r:Rl}{L:List Stm}{t:Tm}{kd k:Int}(h:ave L (iv t kd k)=false):(aax r L t (iv t kd k)).2.1=false:=by
 have h1:=v8 (r:=r) (t:=t) (af0 (d:=iv t kd k) h rfl rfl rfl)
 have h2:=v8 (r:=r) (t:=t) (af0 (d:=l8 (iv t kd k)) h rfl rfl rfl)
 have h3:(aht r L t (iv t kd k)).2=false:=by
  unfold aht
  split
  ·exact h2
  ·rfl
 unfold aax
 split
 ·split
  ·rfl
  ·rw[h3,if_neg (by simp)]
   exact h1
 ·rfl
def a4j(t:Tm):Int:=if 0≤t.ep∧t.ep<40 then(if t.bea.length=32 then 0 else 1)else 41
theorem a6z{r:Rl}{L:List Stm}{t:Tm}{kd k:Int}(hr:d6 r=0)(hv:j8 t.ros=true)(hk:0≤k∧k<64)(hkd:kd=2∨kd=3):(aax r L t (iv t kd k)).2.2=a4j t:=by
 by_cases he:0≤t.ep∧t.ep<40
 ·have hc:dh (iv t kd k)=true:=jl ⟨he.1,he.2,hk.1,hk.2,by simp[iv],by simp[iv],.inr hkd⟩
  have hd:(fh r L t (iv t kd k)).2.2=a4j t:=by
   unfold a4j
   rw[if_pos he]
   by_cases hb:t.bea.length=32
   ·rw[if_pos hb]
    have ht:OkT t:=⟨he.1,he.2,hv,hb⟩
    have hz:=uz hr ht hc rfl (by rfl)
    rcases ar9 (L:=L) hr ht hc rfl with ⟨_,_,s3⟩|⟨s1,_⟩
    ·rw[s3]
    ·rw[hz]at s1;cases s1
   ·rw[if_neg hb]
    have hs:av r t (iv t kd k)=([],1):=by
     unfold av ofG
     rw[if_neg (by simp[iv]),if_pos ⟨hr,hv,hc,hb⟩]
    unfold fh
    rw[hs,if_pos (by simp)]
  unfold aax
  rw[if_pos ⟨hc,rfl⟩]
  by_cases h0:a4j t=0
  ·rw[if_neg (by simp[hd,h0])]
   rw[h0]
   split<;>rfl
  ·rw[if_pos (by simpa [hd] using h0)]
   exact hd
 ·have hc: ¬dh (iv t kd k)=true:=fun h=>by
   have:=of_decide_eq_true h
   exact he ⟨this.1,this.2.1⟩
  unfold aax a4j
  rw[if_neg (fun h=>hc h.1),if_neg he]
theorem ai0{r:Rl}{t:Tm}{c:Cs}(hr:d6 r=0)(ht:OkT t)(ho:m5 c=true)(he:c.ep=t.ep)(hl:(t.ros.length:Int)≤r.seats):av r t (l8 c)=([],44):=by
 have hc:=a4m ho
 rw[vp ht.bea]
 unfold bp
 rw[if_neg (by simpa [l8] using he),sj,if_neg (by simp[hr]),if_neg (by simp[ht.ros]),if_neg (by simp[hc]),if_neg (by simp[l8]),if_pos]
 refine List.eq_nil_iff_forall_not_mem.2 fun k hk=> ?_
 obtain⟨k1,k2,k3⟩:=ii.1 hk
 have hlen:=qe (r:=r) (v:=t.bea) (l:=t.ros) (c:=l8 c) (j:=0) (prev:=[])
 rw[y4 ht.ros]at hlen
 have hsub:=ahw (l:=k::mo r t.bea t.ros (l8 c) 0 []) (m:=t.ros) (List.nodup_cons.2 ⟨k3,qw⟩) fun x hx=>by
  rcases List.mem_cons.1 hx with rfl|hx
  ·exact k2
  ·exact(ii.1 (pv hx)).2.1
 simp only[List.length_cons]at hsub
 omega
def be1(r:Rl)(L:List Stm)(t:Tm)(kd:Int)(keys:List Int)(i:Nat):List Int:=(keys.take i).filter fun k=>oe r L t kd k
theorem bai(r:Rl)(L:List Stm)(t:Tm)(kd:Int)(keys:List Int):be1 r L t kd keys 0=[]:=rfl
end Go.Proofs.Am
