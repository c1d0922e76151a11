/- GOne. -/
import Derived.Test.YteakcpfdfglndaaGreatDoorDSix
import Derived.Test.YteakcpfdfglndaaGreatDoorZOne
import Derived.Test.YteakcpfdfglndaaGreatDoorEOne
set_option linter.unusedSimpArgs false
set_option linter.unusedVariables false
namespace Go.Proofs.Am
open Go Go.RowKit
open Go.Proofs
def afa(v s:Nat):Bool:=decide (1≤s∧s≤9∧v≤s∧3*s<4*v)
def tj(seats:List Int)(v:List Vt):List Ct:=((cnR seats v).filter fun n=>afa n.ks.length seats.length).map Cn.x
theorem s8{seats:List Int}{v:List Vt}{x:Ct}:x∈tj seats v↔∃n∈cnR seats v,n.x=x∧afa n.ks.length seats.length=true:=by
 simp only[tj,List.mem_map,List.mem_filter]
 constructor
 ·rintro⟨n,⟨h1,h2⟩,h3⟩;exact⟨n,h1,h3,h2⟩
 ·rintro⟨n,h1,h3,h2⟩;exact⟨n,⟨h1,h2⟩,h3⟩
theorem ax2{seats:List Int}{v:List Vt}{n:Cn}(h:n∈cnR seats v):n.ks.Nodup:=((eu seats v).r2 n h).imp fun h=>by omega
theorem aas{seats:List Int}{v:List Vt}{n:Cn}(h:n∈cnR seats v){k:Int}(hk:k∈n.ks):k∈seats∧∃y∈v,y.x=n.x∧y.k=k:=mq.1 (((eu seats v).r3 n.x k).1 ⟨n,h,rfl,hk⟩)
theorem a2p{seats:List Int}{v:List Vt}{n:Cn}(h:n∈cnR seats v):n.ks.length≤seats.length:=ajh (ax2 h) fun _ hk=>(aas h hk).1
theorem aug{a b s:Nat}(h:afa a s=true)(hab:a≤b)(hb:b≤s):afa b s=true:=by
 simp only[afa,decide_eq_true_eq]at h ⊢
 omega
theorem a5w{seats K:List Int}{v:List Vt}{u:Ct}(hK:K.Nodup)(h: ∀k∈K,k∈seats∧∃y∈v,y.x=u∧y.k=k)(he:afa K.length seats.length=true):u∈tj seats v:=by
 cases K with
 |nil=>simp[afa]at he
 |cons k r=>
  obtain⟨n,hn,hx,_⟩:=((eu seats v).r3 u k).2 (mq.2 (h k (by simp)))
  refine s8.2 ⟨n,hn,hx,aug he (ajh hK fun j hj=> ?_) (a2p hn)⟩
  obtain⟨m,hm,hx',hj'⟩:=((eu seats v).r3 u j).2 (mq.2 (h j hj))
  rw[ah9 (eu seats v).r1 n hn m hm (hx.trans hx'.symm)]
  exact hj'
theorem aoo(seats:List Int)(v:List Vt):(tj seats v).Nodup:=by
 have h:=(eu seats v).r1
 refine List.Pairwise.map Cn.x (R:=fun a b:Cn=>kz a.x b.x<0) (fun a b hab e=> ?_) (List.Pairwise.filter _ h)
 rw[e]at hab
 exact to_ordC.irr _ hab
theorem awx{seats:List Int}{a b:List Vt}(h:(a.filter fun y=>decide (y.k∈seats))=b.filter fun y=>decide (y.k∈seats)):tj seats a=tj seats b:=by
 unfold tj
 rw[←avn (a:=a),←avn (a:=b),h]
theorem a8y{c:Cs}{s:Stm}(h:okV c s=true):(bh s).1=mkV s∧(mkV s).c=c:=by
 have h1:(bh s).2=true:=by
  unfold okV at h
  exact(Bool.and_eq_true_iff.1 h).1
 have h2:(bh s).1.c=c:=by
  unfold okV at h
  exact of_decide_eq_true (Bool.and_eq_true_iff.1 h).2
 have h3:(ofE s).2=0:=by
  unfold bh at h1
  exact of_decide_eq_true (Bool.and_eq_true_iff.1 h1).1
 have h4:(bh s).1=mkV s:=by
  show(ofE s).1=_
  unfold ofE at h3 ⊢
  split
  ·rename_i h5
   rw[if_pos h5]at h3
   exact absurd h3 h5
  ·rename_i h5
   rw[if_neg h5]at h3
   split
   ·rfl
   ·rename_i h6
    rw[if_neg h6]at h3
    cases h3
 exact⟨h4,h4 ▸ h2⟩
theorem bbk{c:Cs}{s:Stm}(h:okV c s=true):(bh s).1.k=s.au:=by rw[(a8y h).1];rfl
def a0i(a b:Stm):Bool:=decide (a.nu<b.nu∨a.nu=b.nu∧Lib.compareBytes a.sd b.sd<0)
def ago(c:Cs)(x:Ct)(k:Int)(s:Stm):Bool:=okV c s&&decide (s.au=k)&&decide ((bh s).1.x=x)
def n5(l:List Stm)(k:Int)(c:Cs)(x:Ct):Option Stm:=bbz a0i (l.filter (ago c x k))
structure ChkP(c:Cs)(l:List Stm)(seats:List Int)(x:Ct):Prop where
 ok: ∀s∈l,okV c s=true∧s.au∈seats∧(bh s).1.x=x
 up:l.Pairwise fun a b=>a.au<b.au
 en:afa l.length seats.length=true
theorem aji{a e:List Stm}{c:Cs}{seats:List Int}(h: ∀s∈e,okV c s=true→s.au∉seats):((al (a++e) c).filter fun y=>decide (y.k∈seats))=(al a c).filter fun y=>decide (y.k∈seats):=by
 refine(a2u c).ss_eq (List.Pairwise.filter _ (jp (a++e) c).1) (List.Pairwise.filter _ (jp a c).1) fun y=> ?_
 rw[List.mem_filter,List.mem_filter,bo,bo]
 constructor
 ·rintro⟨⟨s,h1,h2,rfl⟩,h3⟩
  refine⟨⟨s,?_,h2,rfl⟩,h3⟩
  rcases List.mem_append.1 h1 with h1|h1
  ·exact h1
  ·rw[bbk h2]at h3
   exact absurd (of_decide_eq_true h3) (h s h1 h2)
 ·rintro⟨⟨s,h1,h2,rfl⟩,h3⟩
  exact⟨⟨s,List.mem_append.2 (.inl h1),h2,rfl⟩,h3⟩
theorem asq{a e:List Stm}{c:Cs}{seats:List Int}(h: ∀s∈e,okV c s=true→s.au∉seats):tj seats (al (a++e) c)=tj seats (al a c):=awx (aji h)
end Go.Proofs.Am
