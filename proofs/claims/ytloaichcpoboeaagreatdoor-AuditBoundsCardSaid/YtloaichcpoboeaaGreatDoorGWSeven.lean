/- GWSeven. -/
import Derived.Test.YtloaichcpoboeaaGreatDoorGWSix
import Derived.Test.YtloaichcpoboeaaGreatDoorPOne
import Derived.Test.YtloaichcpoboeaaGreatDoorVTwo
import Derived.Test.YtloaichcpoboeaaGreatDoorUFour
import Derived.Test.YtloaichcpoboeaaGreatDoorGWOne
import Derived.Test.YtloaichcpoboeaaGreatDoorDFour
import Derived.Test.YtloaichcpoboeaaGreatDoorBThree
import Derived.Test.YtloaichcpoboeaaGreatDoorGWFour
import Derived.Test.YtloaichcpoboeaaGreatDoorEOne
import Derived.Test.YtloaichcpoboeaaGreatDoorVOne
import Derived.Test.YtloaichcpoboeaaGreatDoorLOne
set_option maxRecDepth 1000000
set_option linter.unusedSimpArgs false
set_option linter.unusedVariables false
namespace Go.Proofs.Am
open Go Go.RowKit
open Go.Proofs
theorem a9u(b:List UInt8):sha b=hsS (acl b) ((acl b).length/64) fun v=>v.flatMap ap6:=by rw[bie];rfl
theorem a9d:dig (mz 4 0 0 s5)≠dig (mz 4 0 1 s5):=by
 unfold dig;rw[a9u,a9u];decide+kernel
theorem ifm{α:Type}(b:Bool)(x y:α){s:α}(h:s∈(if b=true then [x,y]else [y,x])):s=x\/s=y:=by
 cases b<;>simp at h
 ·exact h.symm
 ·exact h
theorem a17{s:Stm}(h:s∈L45):s=t45 0\/s=t45 1:=by
 exact ifm _ _ _ h
theorem ave{a b:List UInt8}(h: ¬Op.bytesLess a b=true)(hn:a≠b):Op.bytesLess b a=true:=by
 by_cases h2:Op.bytesLess b a=true
 ·exact h2
 ·exact absurd (yd a b h h2) hn
theorem az4{a b:Stm}(h1:a.au=b.au)(h2:a.nu=b.nu)(h3:Op.bytesLess a.sd b.sd=true):bfl a b<0:=by
 unfold bfl gv anu;rw[h1,h2,if_pos h3];simp[orL]
theorem m8(au nu ti:Int):(mz au nu ti s5).sd=dig (mz au nu ti s5):=rfl
theorem a94{a b:Stm}(h1:a.au=b.au)(h2:a.nu=b.nu):lsT a b=Op.bytesLess a.sd b.sd:=by unfold lsT;rw[if_neg (by simp[h1]),if_neg (by simp[h2])]
theorem ifl{α:Type}(b:Bool)(x y:α):(if b=true then [x,y]else [y,x]).length=2:=by cases b<;>rfl
theorem awg:L45.length=2:=ifl _ _ _
theorem L45_ok:OkSto L45:=by
 have hd:(t45 0).sd≠(t45 1).sd:=fun e=>a9d ((m8 4 0 0).symm.trans (e.trans (m8 4 0 1)));have hlen:L45.length=2:=awg;refine⟨by omega,fun s hs=> ?_,fun i h0 hi=> ?_⟩
 ·rcases a17 hs with rfl|rfl
  ·exact⟨v8 4 0 0,k9 4 0 0 rfl rfl rfl,rfl,m8 4 0 0⟩
  ·exact⟨v8 4 0 1,k9 4 0 1 rfl rfl rfl,rfl,m8 4 0 1⟩
 ·have:i=1:=by omega
  subst this;by_cases h:lsT (t45 0) (t45 1)=true
  ·have e:L45=[t45 0,t45 1]:=if_pos h;rw[e];have h':Op.bytesLess (t45 0).sd (t45 1).sd=true:=by rw[<-a94 (a:=t45 0) (b:=t45 1) rfl rfl];exact h
   exact az4 rfl rfl h'
  ·have e:L45=[t45 1,t45 0]:=if_neg h;rw[e];have h': ¬Op.bytesLess (t45 0).sd (t45 1).sd=true:=by rw[<-a94 (a:=t45 0) (b:=t45 1) rfl rfl];exact h
   exact az4 rfl rfl (ave h' hd)
theorem bki(au nu ti:Int)(c:Cs):okV c (mz au nu ti s5)=false:=bhu (by show(11:Int)≠10;omega)
theorem abx(au nu ti:Int)(h1:inB au 0 63=true)(h2:inB nu 0 199=true)(h3:inB ti 0 2147483648=true):nj (mz au nu ti s5)=true:=by
 have hs:(mz au nu ti s5).sk=(mz au nu ti s5).au/\(mz au nu ti s5).sd=dig (mz au nu ti s5):=⟨rfl,rfl⟩;rw[nj,k9 au nu ti h1 h2 h3,decide_eq_true hs];rfl
structure Fork4(L:List Stm):Prop where
 mem: ∀s,s∈L↔s=mz 4 0 0 s5\/s=mz 4 0 1 s5
 dig:dig (mz 4 0 0 s5)≠dig (mz 4 0 1 s5)
theorem Fork4.nv{L:List Stm}(h:Fork4 L)(c:Cs): ∀s∈L,okV c s=false:=fun s hs=>by
 rcases(h.mem s).1 hs with rfl|rfl<;>exact bki _ _ _ _
theorem Fork4.cf{L:List Stm}(h:Fork4 L):CF L:=fun s hs t ht _ _ _ _ hd=>by
 rcases(h.mem s).1 hs with rfl|rfl<;>rcases(h.mem t).1 ht with rfl|rfl
 ·rfl
 ·exact absurd ((m8 4 0 0).symm.trans (hd.trans (m8 4 0 1))) h.dig
 ·exact absurd ((m8 4 0 0).symm.trans (hd.symm.trans (m8 4 0 1))) h.dig
 ·rfl
theorem Fork4.uni{L:List Stm}(h:Fork4 L):UNI L:=fun c s hs t _ h1 _ _=>by rw[h.nv c s hs]at h1;cases h1
theorem Fork4.gB{L:List Stm}(h:Fork4 L)(k:Int):gB L k=decide (k=4):=by
 rw[Bool.eq_iff_iff,apw,decide_eq_true_iff];constructor
 ·rintro⟨s,hs,_⟩;obtain⟨h1,h2,_⟩:=io.1 hs;rcases(h.mem s).1 h1 with rfl|rfl<;>exact h2.symm
 ·rintro rfl;exact⟨_,io.2 ⟨(h.mem _).2 (.inl rfl),rfl,abx 4 0 0 rfl rfl rfl⟩,_,io.2 ⟨(h.mem _).2 (.inr rfl),rfl,abx 4 0 1 rfl rfl rfl⟩,rfl,fun h=>absurd (congrArg Stm.ti h) (by decide)⟩
theorem Fork4.guil{L:List Stm}(h:Fork4 L):avv L=[4]:=by
 rw[bds h.cf h.uni];have:Am.gB L=fun k=>decide (k=4):=funext h.gB;rw[this];decide
theorem Fork4.cases{L:List Stm}(h:Fork4 L):kn L=[]:=by
 rw[List.eq_nil_iff_forall_not_mem];intro x hx;obtain⟨s,hs,v1,v2⟩:=arg.1 hx;have:=h.nv x s hs;rw[okV,v1,v2]at this;simp at this
theorem Fork4.terms{L:List Stm}(h:Fork4 L){r:Rl}(hr:gq r=0):(eo r L (yl r)).dec=false/\ach r L=([eo r L (yl r)],0):=by
 have hd:(eo r L (yl r)).dec=false:=by
  have h1:=a1h (L:=L) hr (apy hr);have h2:(azk r L (yl r) ⟨(yl r).ep,1,0,0⟩).2.1=false:=a0j (h.nv _);rw[h1]at h2;exact h2
 refine⟨hd,?_⟩;rw[azf hr];congr 1
 have ha:o6 (eo r L (yl r))=none:=by
  cases hx:o6 (eo r L (yl r))with
  |none=>rfl
  |some u=>
   have:=(pg hx).1;rw[hd]at this
   cases this
 unfold xa;rw[o5];simp only[ha]
set_option maxHeartbeats 1000000 in
theorem be1(g:Gr)(k:Int)(h1:g.ed.length<=1000):Den Tryz.prog 62 [.agg (gr g),.int .i64 k] [] (.vs ((srt (ae8 g k)).map i1)) [] []:=by
 refine aa Tryz.func62 rfl Tryz.call62 Tryz.ntmps62 Tryz.results62 (by simp) (by kernel_rfl) [] (exts:=[]) rfl rfl ?_
 have hs: ∀i,i<g.ed.length->ae8 ⟨g.sz,g.ed.take (i+1),g.gone⟩ k=ae8 ⟨g.sz,g.ed.take i,g.gone⟩ k++if(el g.ed i).fr=k then [(el g.ed i).to]else []:=fun i hi=>by
  unfold ae8;simp only[cu hi,List.filter_append,List.map_append,List.filter_cons,List.filter_nil];by_cases h:(el g.ed i).fr=k
  ·simp[h]
  ·simp[h]
 have hln: ∀i,(ae8 ⟨g.sz,g.ed.take i,g.gone⟩ k).length<=i:=fun i=>by
  unfold ae8;rw[List.length_map];refine Nat.le_trans (List.length_filter_le _ _) ?_;simp only[List.length_take];omega
 have hend:ae8 ⟨g.sz,g.ed.take g.ed.length,g.gone⟩ k=ae8 g k:=by unfold ae8;rw[List.take_length]
 have h00:ae8 ⟨g.sz,g.ed.take 0,g.gone⟩ k=[]:=rfl;generalize hO:(fun i=>ae8 ⟨g.sz,g.ed.take i,g.gone⟩ k)=O at*;have hO': ∀i,ae8 ⟨g.sz,g.ed.take i,g.gone⟩ k=O i:=fun i=>congrFun hO i;simp only[hO']at hs hln hend h00;have hol:=hln g.ed.length;rw[hend]at hol;have cs:=ap9 (ae8 g k) (by omega);simp only[go_sem];refine da 5 98 3 1 false ?_ ?_ ?_ (by omega)
 ·refine loop Tryz.mixed (0:Nat) (fun i:Nat=>[(1,.int .i64 k),(5,.os 98 (O i).length),(9,.vs (g.ed.map edr)),(10,.int .i64 g.ed.length),(11,.int .i64 i)]) (fun i=>[(98,.arr 3 1 false ((O i).map i1))]) (fun i=>i<=g.ed.length) (fun i=>g.ed.length - i) (by kernel_rfl) (Nat.zero_le _) ?_ ?_
  ·simp only[go_sem,h00,List.length_nil,List.map_nil]
  ·intro i hi;by_cases hlt:i<g.ed.length
   ·have g1:(i:Int)<(g.ed.length:Int):=by omega
    have hsu:=hs i hlt;have hl:=hln i;by_cases hk:(el g.ed i).fr=k
    ·rw[if_pos hk]at hsu;generalize O i=o at*;simp only[go_sem,g1,hlt,hk];refine⟨by omega,i+1,⟨by omega,by omega⟩,?_⟩;rw[hsu];exact⟨⟨by simp,by rw[ae]<;>omega⟩,by rw[List.map_append];rfl⟩
    ·rw[if_neg hk,List.append_nil]at hsu;generalize O i=o at*;simp only[go_sem,g1,hlt,hk];refine⟨i+1,⟨by omega,by omega⟩,?_⟩;rw[hsu];exact⟨⟨rfl,by rw[ae]<;>omega⟩,rfl⟩
   ·have g1: ¬(i:Int)<(g.ed.length:Int):=by omega
    have:i=g.ed.length:=by omega
    subst this;rw[hend];simp only[go_sem,g1];refine call cs [98] ?_;simp only[go_sem,gx];exact Nat.le_refl _
 ·simp only[go_sem]
 ·simp only[go_sem]
theorem ao5(g:Gr)(p:Pol)(h:qr g p=0)(hL:g.ed.length<=1000):Den Tryz.prog 29 [.agg (gr (bz g p.lv)),.vs (p.se.map i1)] [] (.os 0 (bg (bz g p.lv) p.se).length) [.arr 3 1 false ((bg (bz g p.lv) p.se).map i1)] []:=
 ay1 (fun g x=>srt (ae8 g x)) (fun g x y=>ako _ _) (fun g x=>gx _) (fun g x hx=>be1 g x hx) g p h hL
theorem L45_fork:Fork4 L45:=⟨fun s=>⟨fun h=>a17 h,fun h=>by
 have e: ∀(b:Bool) (x y:Stm),x∈(if b=true then [x,y]else [y,x])/\y∈(if b=true then [x,y]else [y,x]):=fun b x y=>by cases b<;>simp
 rcases h with rfl|rfl
 ·exact(e _ _ _).1
 ·exact(e _ _ _).2⟩,a9d⟩
theorem a9h:gq r45=0:=by decide
theorem al6:Den Tryz.prog 7 [] [] (.bool true) [] []:=by
 refine as6 ao5 ?_;have hs: ∀s∈L45,adv s:=fun s hs=>(L45_ok.ok s hs).1.big;have hl:=awg;have cR:=afi r45 (by decide) (by decide) (by decide);rw[a9h]at cR
 have cT:=at7 r45 L45 ⟨by decide,by decide,by decide⟩ (by omega) hs (fun c y hy=>by
  obtain⟨s,h1,h2,_⟩:=jn.1 hy;rw[L45_fork.nv c s h1]at h2
  cases h2)
 obtain⟨hd,ht⟩:=L45_fork.terms a9h;rw[ht]at cT;have cC:=abg L45 (by omega) hs;rw[L45_fork.cases]at cC;have cG:=atg L45 (by omega) hs L45_fork.cf;rw[L45_fork.guil]at cG;have cA:=asj r45 L45 _ L45_ok cR cT;exact azl r45 L45 (arj r45 L45 _ hd cA) (akl r45 L45 _ cA cC) cG
end Go.Proofs.Am
