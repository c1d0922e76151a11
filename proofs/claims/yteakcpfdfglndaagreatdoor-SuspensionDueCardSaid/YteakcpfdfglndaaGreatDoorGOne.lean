/- GOne. -/
import Derived.Test.YteakcpfdfglndaaGreatDoorDSix
import Derived.Test.YteakcpfdfglndaaGreatDoorZOne
import Derived.Test.YteakcpfdfglndaaGreatDoorEOne
set_option linter.unusedSimpArgs false
set_option linter.unusedVariables false
namespace Go.Proofs.Am
open Go Go.RowKit
open Go.Proofs
def ae9(v s:Nat):Bool:=decide (1≤s∧s≤9∧v≤s∧3*s<4*v)
def tc(seats:List Int)(v:List Vt):List Ct:=((cnR seats v).filter fun n=>ae9 n.ks.length seats.length).map Cn.x
theorem td{seats:List Int}{v:List Vt}{x:Ct}:x∈tc seats v↔∃n∈cnR seats v,n.x=x∧ae9 n.ks.length seats.length=true:=by
 simp only[tc,List.mem_map,List.mem_filter]
 constructor
 ·rintro⟨n,⟨h1,h2⟩,h3⟩;exact⟨n,h1,h3,h2⟩
 ·rintro⟨n,h1,h3,h2⟩;exact⟨n,⟨h1,h2⟩,h3⟩
theorem a1e{seats:List Int}{v:List Vt}{n:Cn}(h:n∈cnR seats v):n.ks.Nodup:=((ez seats v).r2 n h).imp fun h=>by omega
theorem aa0{seats:List Int}{v:List Vt}{n:Cn}(h:n∈cnR seats v){k:Int}(hk:k∈n.ks):k∈seats∧∃y∈v,y.x=n.x∧y.k=k:=mg.1 (((ez seats v).r3 n.x k).1 ⟨n,h,rfl,hk⟩)
theorem a2b{seats:List Int}{v:List Vt}{n:Cn}(h:n∈cnR seats v):n.ks.length≤seats.length:=aik (a1e h) fun _ hk=>(aa0 h hk).1
theorem aui{a b s:Nat}(h:ae9 a s=true)(hab:a≤b)(hb:b≤s):ae9 b s=true:=by
 simp only[ae9,decide_eq_true_eq]at h ⊢
 omega
theorem a3u{seats K:List Int}{v:List Vt}{u:Ct}(hK:K.Nodup)(h: ∀k∈K,k∈seats∧∃y∈v,y.x=u∧y.k=k)(he:ae9 K.length seats.length=true):u∈tc seats v:=by
 cases K with
 |nil=>simp[ae9]at he
 |cons k r=>
  obtain⟨n,hn,hx,_⟩:=((ez seats v).r3 u k).2 (mg.2 (h k (by simp)))
  refine td.2 ⟨n,hn,hx,aui he (aik hK fun j hj=> ?_) (a2b hn)⟩
  obtain⟨m,hm,hx',hj'⟩:=((ez seats v).r3 u j).2 (mg.2 (h j hj))
  rw[ajd (ez seats v).r1 n hn m hm (hx.trans hx'.symm)]
  exact hj'
theorem am4(seats:List Int)(v:List Vt):(tc seats v).Nodup:=by
 have h:=(ez seats v).r1
 refine List.Pairwise.map Cn.x (R:=fun a b:Cn=>kz a.x b.x<0) (fun a b hab e=> ?_) (List.Pairwise.filter _ h)
 rw[e]at hab
 exact to_ordC.irr _ hab
theorem a0f{seats:List Int}{a b:List Vt}(h:(a.filter fun y=>decide (y.k∈seats))=b.filter fun y=>decide (y.k∈seats)):tc seats a=tc seats b:=by
 unfold tc
 rw[←aql (a:=a),←aql (a:=b),h]
theorem a9b{c:Cs}{s:Stm}(h:okV c s=true):(bh s).1=mkV s∧(mkV s).c=c:=by
 have h1:(bh s).2=true:=by
  unfold okV at h
  exact(Bool.and_eq_true_iff.1 h).1
 have h2:(bh s).1.c=c:=by
  unfold okV at h
  exact of_decide_eq_true (Bool.and_eq_true_iff.1 h).2
 have h3:(ofE s).2=0:=by
  unfold bh at h1
  exact of_decide_eq_true (Bool.and_eq_true_iff.1 h1).1
 have h4:(bh s).1=mkV s:=by
  show(ofE s).1=_
  unfold ofE at h3 ⊢
  split
  ·rename_i h5
   rw[if_pos h5]at h3
   exact absurd h3 h5
  ·rename_i h5
   rw[if_neg h5]at h3
   split
   ·rfl
   ·rename_i h6
    rw[if_neg h6]at h3
    cases h3
 exact⟨h4,h4 ▸ h2⟩
theorem ba4{c:Cs}{s:Stm}(h:okV c s=true):(bh s).1.k=s.au:=by rw[(a9b h).1];rfl
def a0w(a b:Stm):Bool:=decide (a.nu<b.nu∨a.nu=b.nu∧Lib.compareBytes a.sd b.sd<0)
def agn(c:Cs)(x:Ct)(k:Int)(s:Stm):Bool:=okV c s&&decide (s.au=k)&&decide ((bh s).1.x=x)
def oa(l:List Stm)(k:Int)(c:Cs)(x:Ct):Option Stm:=bby a0w (l.filter (agn c x k))
structure ChkP(c:Cs)(l:List Stm)(seats:List Int)(x:Ct):Prop where
 ok: ∀s∈l,okV c s=true∧s.au∈seats∧(bh s).1.x=x
 up:l.Pairwise fun a b=>a.au<b.au
 en:ae9 l.length seats.length=true
theorem ajf{a e:List Stm}{c:Cs}{seats:List Int}(h: ∀s∈e,okV c s=true→s.au∉seats):((al (a++e) c).filter fun y=>decide (y.k∈seats))=(al a c).filter fun y=>decide (y.k∈seats):=by
 refine(a2f c).ss_eq (List.Pairwise.filter _ (js (a++e) c).1) (List.Pairwise.filter _ (js a c).1) fun y=> ?_
 rw[List.mem_filter,List.mem_filter,bo,bo]
 constructor
 ·rintro⟨⟨s,h1,h2,rfl⟩,h3⟩
  refine⟨⟨s,?_,h2,rfl⟩,h3⟩
  rcases List.mem_append.1 h1 with h1|h1
  ·exact h1
  ·rw[ba4 h2]at h3
   exact absurd (of_decide_eq_true h3) (h s h1 h2)
 ·rintro⟨⟨s,h1,h2,rfl⟩,h3⟩
  exact⟨⟨s,List.mem_append.2 (.inl h1),h2,rfl⟩,h3⟩
theorem aqb{a e:List Stm}{c:Cs}{seats:List Int}(h: ∀s∈e,okV c s=true→s.au∉seats):tc seats (al (a++e) c)=tc seats (al a c):=a0f (ajf h)
end Go.Proofs.Am
