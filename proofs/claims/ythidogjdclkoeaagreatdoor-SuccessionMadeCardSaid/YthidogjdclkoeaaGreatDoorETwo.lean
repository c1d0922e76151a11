/- ETwo. -/
import Derived.Test.YthidogjdclkoeaaGreatDoorAmZ
set_option linter.unusedSimpArgs false
set_option linter.unusedVariables false
namespace Go.Proofs.Am
open Go Go.RowKit
variable {P:Program}
theorem Den.vsE{k:FuncId}{args:List PV}{ext ext' nb:List Box}{e sz:Nat}{sh:Bool}{xs:List (List PV)}{n:Nat}(D:Den P k args ext (.os 1000000 n) nb (.arr e sz sh xs::ext'))(hn:n=xs.length):Den P k args ext (.vs xs) nb (.arr e sz true xs::ext'):=by
 refine⟨D.enter,fun w V hv gc vals h1 h2 h3=>(D.run w V hv gc vals h1 h2 h3).mono fun en w'=> ?_⟩;rintro⟨v,hv',rfl,hS,hR⟩;have hsh:=hS.shared (dp (d4 nb (.arr e sz sh xs::ext')) [1000000]);have hst:d4 nb (.arr e sz sh xs::ext') 1000000=some (.arr e sz sh xs):=by simp[d4]
 have h0:ar (d4 nb (.arr e sz sh xs::ext')) [1000000] 1000000=some (.arr e sz true xs):=by simp[ar,d4,Box.share]
 have hlist:=hsh.1.asList h0
 have hv0:v=hv' 1000000:=by
  obtain⟨_,e1,sz1,sh1,xs1,k1,k2,k3⟩:=hR.os_arr hst;rw[hst]at k1
  cases k1
  exact k3 hn
 have heq:d4 nb (.arr e sz true xs::ext')=ar (d4 nb (.arr e sz sh xs::ext')) [1000000]:=by
  funext m;unfold ar d4;by_cases h:m=1000000
  ·subst h;simp[Box.share]
  ·simp only[List.mem_singleton,h,if_false];by_cases h2:m<1000000
   ·simp[h2]
   ·simp only[if_neg h2]
    cases hk:m - 1000000 with
    |zero=>omega
    |succ k=>simp
 rw[heq];exact⟨v,hv',rfl,hsh.1,by rw[hv0];exact .pure hlist⟩
theorem ak9{σ:ASt}: ∀{xs:List (List PV)},(∀x∈xs,gr σ x=some (x,[]))->lm σ xs=some (xs,[])
 |[],_=>rfl
 |x::r,h=>by
  have ih:lm σ r=some (r,[]):=ak9 fun y hy=>h y (by simp[hy]);have h0:=h x (by simp);simp[lm,h0,ih]
def kp{α:Type} [Inhabited α](q:α->α->Bool)(l:List α):Nat->List α
 |0=>[]
 |i+1=>kp q l i++if i=0\/q (el l i) (el l (i - 1))=false then [el l i]else []
theorem azr{α:Type} [Inhabited α](q:α->α->Bool)(l:List α): ∀i,(kp q l i).length<=i
 |0=>by simp[kp]
 |i+1=>by
  have:=azr q l i;simp only[kp];split<;>simp<;>omega
theorem ah5{α:Type} [Inhabited α](q:α->α->Bool)(l:List α): ∀i,i<=l.length->(∀j,0<j->j<i->q (el l j) (el l (j - 1))=false)->kp q l i=l.take i
 |0,_,_=>by simp[kp]
 |i+1,hi,h=>by
  have ih:=ah5 q l i (by omega) fun j h1 h2=>h j h1 (by omega);have hg:l[i]? =some (el l i):=by simp[el,bq,bf (show i<l.length by omega)]
  have hc:i=0\/q (el l i) (el l (i - 1))=false:=by
   rcases Nat.eq_zero_or_pos i with h0|h0
   ·exact .inl h0
   ·exact .inr (h i h0 (by omega))
  rw[kp,if_pos hc,ih,List.take_add_one,hg];rfl
theorem a6g{α:Type} [Inhabited α](q:α->α->Bool)(l:List α){i:Nat}(h:0<i):0<(kp q l i).length:=by
 induction i with
 |zero=>omega
 |succ i ih=>
  rcases Nat.eq_zero_or_pos i with h0|h0
  ·subst h0;simp[kp]
  ·have:=ih h0;simp only[kp,List.length_append];omega
theorem aki{α:Type} [Inhabited α](q:α->α->Bool)(l:List α): ∀n,n<=l.length->(∀j,0<j->j<n->q (el l j) (el l (j - 1))=false)\/∃k,0<k/\k<n/\q (el l k) (el l (k - 1))=true/\∀j,0<j->j<k->q (el l j) (el l (j - 1))=false
 |0,_=> .inl fun j h1 h2=>by omega
 |n+1,h=>by
  rcases aki q l n (by omega)with h1|⟨k,h1,h2,h3,h4⟩
  ·rcases Nat.eq_zero_or_pos n with h0|h0
   ·exact .inl fun j h2 h3=>by omega
   ·cases hq:q (el l n) (el l (n - 1))with
    |true=>exact .inr ⟨n,h0,by omega,hq,h1⟩
    |false=>
     refine .inl fun j h2 h3=> ?_;rcases Nat.lt_succ_iff_lt_or_eq.1 h3 with h4|rfl
     ·exact h1 j h2 h4
     ·exact hq
  ·exact .inr ⟨k,h1,by omega,h3,h4⟩
section
variable {σ:ASt} {K:KT} {α:Type} [Inhabited α] (f:α->List PV) (l:List α)
theorem al5(n k i off m e sz:Nat):ar3 n k i off K (some (some m)) (some (.arh e sz (l.map f)))=((k=l.length/\i<k)/\bv (f (el l i)) fun c=>off+m<=c.length/\kk K (.agg ((c.drop off).take m)) [] [n]):=by
 simp only[ar3,bv,List.length_map,and_assoc];refine propext (and_congr_right fun h1=>and_congr_right fun h2=> ?_);rw[kc f l (by omega)]
theorem ar5(n k i off m e sz:Nat)(us:List PV):af9 σ n k i off K (some m) (some us) (some (.arh e sz (l.map f)))=((us.length=m/\us.all eh=true/\k=l.length/\i<k/\off+m<=sz)/\bv (f (el l i)) fun c=>bv ((l.map f).set i (c.take off++us++c.drop (off+m))) fun xs'=>kk K .undef [(n,.arh e sz xs')] [n]):=by
 simp only[af9,bv,List.length_map,and_assoc];refine propext (and_congr_right fun h0=>and_congr_right fun h1=>and_congr_right fun h2=>and_congr_right fun h3=>and_congr_right fun h4=> ?_);rw[kc f l (by omega)]
end
attribute [go_sem ↓ 1100] al5 ar5
theorem an4{K:KT}{σ:ASt}(t:TypeId)(n k i:Nat):p9 P t σ (.osl n k i) K=uf P t σ (.osl n k i) K:=(rfl)
attribute [go_sem ↓] an4
theorem kr{α:Type}(d:List Nat)(f:α->List PV)(h: ∀a,acw d (f a)=true): ∀l:List α,ra d (l.map f)=true
 |[]=>rfl
 |a::l=>by simp only[List.map_cons,ra,h a,kr d f h l,Bool.and_self]
end Go.Proofs.Am

/- Sorted lists: insertion, and the first of equals. -/
namespace Go.Proofs.Am
open Go
def l4{α:Type}(b:α->α->Bool):List α->α->List α
 |[],v=>[v]
 |a::r,v=>if b a v=true then a::l4 b r v else if b v a=true then v::a::r else a::r
theorem ah0{α:Type} [Inhabited α](b:α->α->Bool): ∀(o:List α) (v:α) (k:Nat),k<=o.length->(∀j,j<k->b (el o j) v=true)->(k<o.length->b (el o k) v=false)->
  l4 b o v=if k<o.length/\b v (el o k)=false then o else o.take k++v::o.drop k
 |[],v,k,hk,_,_=>by
  have:k=0:=by simpa using hk
  subst this
  simp[l4]
 |a::l,v,0,_,_,h2=>by
  have h:=h2 (by simp);have e0:el (a::l) 0=a:=rfl;rw[e0]at h ⊢;simp only[l4,h]
  cases he:b v a<;>simp
 |a::l,v,k+1,hk,h1,h2=>by
  have h0:b a v=true:=h1 0 (by omega);have ih:=ah0 b l v k (by simpa using hk) (fun j hj=>h1 (j+1) (by omega)) (fun hl=>h2 (by simpa using hl));simp only[l4,if_pos h0,ih];have e1:el (a::l) (k+1)=el l k:=rfl;rw[e1];by_cases hc:k<l.length/\b v (el l k)=false
  ·rw[if_pos hc,if_pos ⟨by simp;exact hc.1,hc.2⟩]
  ·rw[if_neg hc,if_neg (fun h=>hc ⟨by simpa using h.1,h.2⟩)];simp
theorem akp{α:Type}(b:α->α->Bool): ∀(l:List α) (v:α),(l4 b l v).length<=l.length+1
 |[],v=>by simp[l4]
 |a::l,v=>by
  have:=akp b l v;simp only[l4];split
  ·simp;omega
  ·split<;>simp
theorem alg{α:Type}(b:α->α->Bool): ∀(l:List α) (v x:α),x∈l4 b l v->x=v\/x∈l
 |[],v,x,h=>by simpa [l4] using h
 |a::l,v,x,h=>by
  simp only[l4]at h;split at h
  ·rcases List.mem_cons.1 h with rfl|h
   ·simp
   ·rcases alg b l v x h with h|h<;>simp[h]
  ·split at h
   ·simpa using h
   ·exact .inr h
structure KO{α:Type}(lt:α->α->Bool)(S:α->Prop):Prop where
 irr: ∀a,lt a a=false
 tr: ∀a b c,lt a b=true->lt b c=true->lt a c=true
 nt: ∀a b c,lt a b=false->lt b c=false->lt a c=false
 tri: ∀a b,S a->S b->lt a b=false->lt b a=false->a=b
section
variable {α:Type} {lt:α->α->Bool} {S:α->Prop} (h:KO lt S)
abbrev SS(lt:α->α->Bool)(l:List α):Prop:=l.Pairwise fun a b=>lt a b=true
include h
theorem KO.asym{a b:α}(h1:lt a b=true):lt b a=false:=by
 cases hb:lt b a with
 |false=>rfl
 |true=>have:=h.tr a b a h1 hb;rw[h.irr]at this;cases this
theorem KO.lelt{a b c:α}(h1:lt b a=false)(h2:lt b c=true):lt a c=true:=by
 cases hc:lt a c with
 |true=>rfl
 |false=>have:=h.nt b a c h1 hc;rw[h2]at this;cases this
theorem KO.ss_eq: ∀{l m:List α},SS lt l->SS lt m->(∀x,x∈l↔x∈m)->l=m
 |[],[],_,_,_=>rfl
 |[],b::m,_,_,e=>by have:=(e b).2 (by simp);simp at this
 |a::l,[],_,_,e=>by have:=(e a).1 (by simp);simp at this
 |a::l,b::m,h1,h2,e=>by
  rw[SS,List.pairwise_cons]at h1 h2
  have hab:a=b:=by
   rcases List.mem_cons.1 ((e a).1 (by simp))with h3|h3
   ·exact h3
   ·rcases List.mem_cons.1 ((e b).2 (by simp))with h4|h4
    ·exact h4.symm
    ·have:=h.asym (h2.1 a h3);rw[h1.1 b h4]at this;cases this
  subst hab;rw[KO.ss_eq h1.2 h2.2 fun x=> ?_];constructor
  ·intro hx;rcases List.mem_cons.1 ((e x).1 (by simp[hx]))with rfl|h3
   ·have:=h1.1 x hx;rw[h.irr]at this;cases this
   ·exact h3
  ·intro hx;rcases List.mem_cons.1 ((e x).2 (by simp[hx]))with rfl|h3
   ·have:=h2.1 x hx;rw[h.irr]at this;cases this
   ·exact h3
theorem KO.ins_mem{v:α}(hv:S v): ∀{l:List α},(∀x∈l,S x)->∀x,x∈l4 lt l v↔x=v\/x∈l
 |[],_,x=>by simp[l4]
 |a::l,hl,x=>by
  have ih:=KO.ins_mem hv (l:=l) (fun x hx=>hl x (by simp[hx])) x
  cases h1:lt a v with
  |true=>
   have e:l4 lt (a::l) v=a::l4 lt l v:=by simp only[l4];rw[if_pos h1]
   rw[e,List.mem_cons,ih,List.mem_cons];constructor
   ·rintro(h|h|h)<;>simp[h]
   ·rintro(h|h|h)<;>simp[h]
  |false=>
   cases h2:lt v a with
   |true=>
    have e:l4 lt (a::l) v=v::a::l:=by simp only[l4];rw[if_neg (by simp[h1]),if_pos h2]
    rw[e];simp
   |false=>
    have e:l4 lt (a::l) v=a::l:=by simp only[l4];rw[if_neg (by simp[h1]),if_neg (by simp[h2])]
    have:a=v:=h.tri a v (hl a (by simp)) hv h1 h2;rw[e,this];simp
theorem KO.ins_ss{v:α}(hv:S v): ∀{l:List α},(∀x∈l,S x)->SS lt l->SS lt (l4 lt l v)
 |[],_,_=>by simp[l4]
 |a::l,hl,hs=>by
  have hl': ∀x∈l,S x:=fun x hx=>hl x (by simp[hx]);have hs':=hs;rw[SS,List.pairwise_cons]at hs'
  cases h1:lt a v with
  |true=>
   have e:l4 lt (a::l) v=a::l4 lt l v:=by simp only[l4];rw[if_pos h1]
   rw[e,SS,List.pairwise_cons];refine⟨fun x hx=> ?_,KO.ins_ss hv hl' hs'.2⟩;rcases(h.ins_mem hv hl' x).1 hx with rfl|hx
   ·exact h1
   ·exact hs'.1 x hx
  |false=>
   cases h2:lt v a with
   |true=>
    have e:l4 lt (a::l) v=v::a::l:=by simp only[l4];rw[if_neg (by simp[h1]),if_pos h2]
    rw[e,SS,List.pairwise_cons];refine⟨fun x hx=> ?_,hs⟩;rcases List.mem_cons.1 hx with rfl|hx
    ·exact h2
    ·exact h.tr _ _ _ h2 (hs'.1 x hx)
   |false=>
    have e:l4 lt (a::l) v=a::l:=by simp only[l4];rw[if_neg (by simp[h1]),if_neg (by simp[h2])]
    rw[e];exact hs
theorem KO.fold_mem: ∀{r o:List α},(∀x∈r,S x)->(∀x∈o,S x)->∀x,x∈r.foldl (l4 lt) o↔x∈r\/x∈o
 |[],o,_,_,x=>by simp
 |v::r,o,hr,ho,x=>by
  have hv:=hr v (by simp)
  have ho': ∀x∈l4 lt o v,S x:=fun x hx=>by
   rcases(h.ins_mem hv ho x).1 hx with rfl|hx
   ·exact hv
   ·exact ho x hx
  rw[List.foldl_cons,KO.fold_mem (fun x hx=>hr x (by simp[hx])) ho' x,h.ins_mem hv ho,List.mem_cons];constructor
  ·rintro(h|h|h)<;>simp[h]
  ·rintro((h|h)|h)<;>simp[h]
theorem KO.fold_ss: ∀{r o:List α},(∀x∈r,S x)->(∀x∈o,S x)->SS lt o->SS lt (r.foldl (l4 lt) o)
 |[],o,_,_,hs=>hs
 |v::r,o,hr,ho,hs=>by
  have hv:=hr v (by simp)
  have ho': ∀x∈l4 lt o v,S x:=fun x hx=>by
   rcases(h.ins_mem hv ho x).1 hx with rfl|hx
   ·exact hv
   ·exact ho x hx
  rw[List.foldl_cons];exact KO.fold_ss (fun x hx=>hr x (by simp[hx])) ho' (h.ins_ss hv ho hs)
theorem KO.kp_inv [Inhabited α]{q:α->α->Bool}(hq: ∀a b,q a b=true↔(lt a b=false/\lt b a=false)){l:List α}(hS: ∀x∈l,S x)(hw:l.Pairwise fun a b=>lt b a=false):
  ∀i,i<=l.length->SS lt (kp q l i)/\∀x,x∈kp q l i↔x∈l.take i
 |0,_=>by simp[kp]
 |i+1,hi=>by
  obtain⟨i1,i2⟩:=KO.kp_inv hq hS hw i (by omega);have hlt:i<l.length:=by omega
  have hg:l[i]? =some (el l i):=by simp[el,bq,bf hlt]
  have hge:el l i=l[i]:=by simp[el,bq,bf hlt]
  have htk:l.take (i+1)=l.take i++[el l i]:=by rw[List.take_add_one,hg];rfl
  have hle: ∀x∈l.take i,lt (el l i) x=false:=fun x hx=>by
   obtain⟨j,hj,rfl⟩:=List.mem_iff_getElem.1 hx;have hj':j<i:=by simp at hj;omega
   rw[List.getElem_take,hge];exact List.pairwise_iff_getElem.1 hw j i (by omega) hlt hj'
  rcases Nat.eq_zero_or_pos i with h0|h0
  ·subst h0;simp only[kp];simp[htk]
  ·have hp:el l (i - 1)∈l.take i:=by
    rw[List.mem_iff_getElem];refine⟨i - 1,by simp;omega,?_⟩;rw[List.getElem_take];simp[el,bq,bf (show i - 1<l.length by omega)]
   cases hqq:q (el l i) (el l (i - 1))with
   |true=>
    have e:kp q l (i+1)=kp q l i:=by
     simp only[kp];rw[if_neg (by rw[hqq];simp;omega),List.append_nil]
    obtain⟨q1,q2⟩:=(hq _ _).1 hqq;have he:el l i=el l (i - 1):=h.tri _ _ (hS _ (by rw[hge];exact List.getElem_mem _)) (hS _ (List.mem_of_mem_take hp)) q1 q2;rw[e];refine⟨i1,fun x=> ?_⟩;rw[i2,htk,List.mem_append,List.mem_singleton,he];constructor
    ·exact .inl
    ·rintro(h|rfl)
     ·exact h
     ·exact hp
   |false=>
    have e:kp q l (i+1)=kp q l i++[el l i]:=by
     simp only[kp];rw[if_pos (.inr hqq)]
    have hl1:lt (el l (i - 1)) (el l i)=true:=by
     cases hc:lt (el l (i - 1)) (el l i)with
     |true=>rfl
     |false=>have:=(hq _ _).2 ⟨hle _ hp,hc⟩;rw[hqq]at this;cases this
    rw[e];refine⟨?_,fun x=> ?_⟩
    ·rw[SS,List.pairwise_append];refine⟨i1,by simp,fun a ha b hb=> ?_⟩;rw[List.mem_singleton]at hb;subst hb;have ha':=(i2 a).1 ha;obtain⟨j,hj,rfl⟩:=List.mem_iff_getElem.1 ha';have hj':j<i:=by simp at hj;omega
     rw[List.getElem_take]
     have hle2:lt (el l (i - 1)) l[j]=false:=by
      have e1:el l (i - 1)=l[i - 1]:=by simp[el,bq,bf (show i - 1<l.length by omega)]
      rcases Nat.lt_or_ge j (i - 1)with h3|h3
      ·rw[e1];exact List.pairwise_iff_getElem.1 hw j (i - 1) (by omega) (by omega) h3
      ·have:j=i - 1:=by omega
       subst this;rw[e1];exact h.irr _
     exact h.lelt hle2 hl1
    ·rw[htk,List.mem_append,List.mem_append,i2]
end
end Go.Proofs.Am
