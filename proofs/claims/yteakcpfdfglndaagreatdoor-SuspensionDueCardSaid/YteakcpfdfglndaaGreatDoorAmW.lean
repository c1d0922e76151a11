/- AmW. -/
import Derived.Test.YteakcpfdfglndaaGreatDoorAmV
set_option linter.unusedSimpArgs false
set_option linter.unusedVariables false
namespace Go.Proofs.Am
open Go Go.RowKit
variable {P:Program}
def vIf(X Y:Prop):Bool→Prop
 |true=>X
 |false=>Y
theorem ax2(X Y:Prop):vIf X Y true=X:=(rfl)
theorem asg(X Y:Prop):vIf X Y false=Y:=(rfl)
theorem i6(X Y:Prop)(b:Bool):vIf X Y b=((b=true→X)∧(b=false→Y)):=by cases b<;>simp[vIf]
theorem ai9(P:Program)(N:Nat)(Q:s6)(fr:AFr)(σ:ASt)(a b:Code)(t:Bool):a6n P N Q fr σ a b (.bool t)=bv t fun t=>vIf (wv P N a Q fr σ) (wv P N b Q fr σ) t:=by
 rw[yg];simp only[bv,i6]
theorem bcp(P:Program)(all:Array Oper)(op:Op)(d:Option Nat)(r:List Oper)(fr:AFr)(σ:ASt)(K:AFr→ASt→Prop)(t:Nat)(b:Bool):vG P all op d r fr σ K t true (.bool b)=
  bv b fun b=>vIf (evO P op d ((t,.bool true)::fr) σ fun u δ _=>nx P all r ((t,.bool true)::fr) d u σ δ K) (nx P all r ((t,.bool false)::fr) d (.tup []) σ [] K) b:=by
 rw[ai6];simp only[bv,i6,Bool.not_true]
theorem bci(P:Program)(all:Array Oper)(op:Op)(d:Option Nat)(r:List Oper)(fr:AFr)(σ:ASt)(K:AFr→ASt→Prop)(t:Nat)(b:Bool):vG P all op d r fr σ K t false (.bool b)=
  bv b fun b=>vIf (nx P all r ((t,.bool true)::fr) d (.tup []) σ [] K) (evO P op d ((t,.bool false)::fr) σ fun u δ _=>nx P all r ((t,.bool false)::fr) d u σ δ K) b:=by
 rw[ai6];simp only[bv,i6,Bool.not_false];exact propext and_comm
theorem bay(P:Program)(all:Array Oper)(op:Op)(d:Option Nat)(r:List Oper)(fr:AFr)(σ:ASt)(g:Log)(K:AFr→ASt→Log→Prop)(t:Nat)(b:Bool):vGD P all op d r fr σ g K t true (.bool b)=
  bv b fun b=>vIf (evO P op d ((t,.bool true)::fr) σ fun u δ F=>bv F fun F=>nxD P all r ((t,.bool true)::fr) d u σ δ g F K) (nxD P all r ((t,.bool false)::fr) d (.tup []) σ [] g [] K) b:=by
 rw[abd];simp only[bv,i6,Bool.not_true]
theorem ba8(P:Program)(all:Array Oper)(op:Op)(d:Option Nat)(r:List Oper)(fr:AFr)(σ:ASt)(g:Log)(K:AFr→ASt→Log→Prop)(t:Nat)(b:Bool):vGD P all op d r fr σ g K t false (.bool b)=
  bv b fun b=>vIf (nxD P all r ((t,.bool true)::fr) d (.tup []) σ [] g [] K) (evO P op d ((t,.bool false)::fr) σ fun u δ F=>bv F fun F=>nxD P all r ((t,.bool false)::fr) d u σ δ g F K) b:=by
 rw[abd];simp only[bv,i6,Bool.not_false];exact propext and_comm
theorem aip(fr:AFr)(K:KT)(a b:Operand)(t:Bool):a6j fr a b K (.bool t)=bv t fun t=>vIf (kk K (ev fr a) [] []) (kk K (ev fr b) [] []) t:=by
 rw[zd];simp only[bv,i6]
attribute [go_sem ↓ 1100] aip ax2 asg ai9 bcp bci bay ba8
attribute [go_sem ↓] i6
def c4(x:Int):PV:= .int .u32 x
theorem bcl(x:Int):PV.int .u32 x=c4 x:=rfl
theorem aaq(l:List Int){i:Nat}(h:i<l.length):fj (l.map c4) i= .int .u32 (el l i):=by
 simp[fj,el,List.getD_eq_getElem?_getD,h,c4]
theorem bbh(K:KT)(l:List Int)(i:Nat)(d:ASt)(F:List Nat):(i<(l.map c4).length∧kk K (fj (l.map c4) i) d F)=(i<l.length∧K (.int .u32 (el l i)) d F):=by
 simp only[List.length_map,kk]
 refine propext (and_congr_right fun h=> ?_)
 rw[aaq l h];rfl
theorem bav(K:KT)(l:List Int)(i:Nat)(n:Nat)(d:ASt)(F:List Nat):(((0:Int)≤(i:Int)∧(i:Int)<(n:Int)∧(i:Int)<((l.map c4).length:Int))∧kk K (fj (l.map c4) (i:Int).toNat) d F)=((i<n∧i<l.length)∧K (.int .u32 (el l i)) d F):=by
 simp only[List.length_map,kk,Int.toNat_natCast]
 apply propext
 constructor
 ·rintro⟨⟨_,h1,h2⟩,h3⟩
  rw[aaq l (by omega)]at h3
  exact⟨⟨by omega,by omega⟩,h3⟩
 ·rintro⟨⟨h1,h2⟩,h3⟩
  refine⟨⟨by omega,by omega,by omega⟩,?_⟩
  rw[aaq l h2];exact h3
def baj(n off:Nat)(K:KT):Option Nat→Option (List PV)→Option Box→Prop
 |some m,some us,some (.cells cs)=>(us.length=m∧us.all f7=true∧off+m≤cs.length)∧kk K .undef [(n,.cells (cs.take off++us++cs.drop (off+m)))] [n]
 |_,_,_=>False
theorem af9(P:Program)(σ:ASt)(K:KT)(t:TypeId)(n off:Nat)(v:PV):k8 P t σ (.ptr n off) v K=bv (d6 P t) fun m=>bv (dz v) fun us=>bv (ag σ n) fun B=>baj n off K m us B:=by
 rw[vz];rfl
theorem abf(K:KT)(n off m:Nat)(us cs:List PV):baj n off K (some m) (some us) (some (.cells cs))=((us.length=m∧us.all f7=true∧off+m≤cs.length)∧kk K .undef [(n,.cells (cs.take off++us++cs.drop (off+m)))] [n]):=rfl
theorem a5e(K:KT)(n i:Nat)(l:List Int)(v:Int):baj n i K (some 1) (some [.int .u32 v]) (some (.cells (l.map c4)))=(i<l.length∧kk K .undef [(n,.cells ((l.set i v).map c4))] [n]):=by
 rw[abf]
 simp only[List.length_map,kk]
 apply propext
 have e:i<l.length→(l.map c4).take i++[.int .u32 v]++(l.map c4).drop (i+1)=(l.set i v).map c4:=fun h=>by
  rw[List.map_set,List.set_eq_take_append_cons_drop]
  simp[h,c4]
 constructor
 ·rintro⟨⟨h1,h2,h3⟩,h4⟩
  rw[e h3]at h4
  exact⟨h3,h4⟩
 ·rintro⟨h3,h4⟩
  rw[←e h3]at h4
  exact⟨⟨rfl,rfl,h3⟩,h4⟩
def c8(x:Int):PV:= .int .i64 x
theorem als(l:List Int){i:Nat}(h:i<l.length):fj (l.map c8) i= .int .i64 (el l i):=by
 simp[fj,el,List.getD_eq_getElem?_getD,h,c8]
theorem bap(K:KT)(l:List Int)(i:Nat)(n:Nat)(d:ASt)(F:List Nat):(((0:Int)≤(i:Int)∧(i:Int)<(n:Int)∧(i:Int)<((l.map c8).length:Int))∧kk K (fj (l.map c8) (i:Int).toNat) d F)=((i<n∧i<l.length)∧K (.int .i64 (el l i)) d F):=by
 simp only[List.length_map,kk,Int.toNat_natCast]
 apply propext
 constructor
 ·rintro⟨⟨_,h1,h2⟩,h3⟩
  rw[als l (by omega)]at h3
  exact⟨⟨by omega,by omega⟩,h3⟩
 ·rintro⟨⟨h1,h2⟩,h3⟩
  refine⟨⟨by omega,by omega,by omega⟩,?_⟩
  rw[als l h2];exact h3
theorem a2m(d:List Nat): ∀(l:List Int),adl d (l.map c8)=true
 |[]=>rfl
 |x::r=>by simp[adl,a2h,c8,a2m d r]
theorem a94(l:List Int):(l.map c4).all f7=true:=by simp[c4,f7]
theorem bbq(l:List Int)(n:Nat):(l.map c4).take n=(l.take n).map c4:=List.map_take.symm
theorem bbu(l:List Int)(n:Nat):(l.map c4).drop n=(l.drop n).map c4:=List.map_drop.symm
theorem a15(d:List Nat): ∀(l:List Int),adl d (l.map c4)=true
 |[]=>rfl
 |x::r=>by simp[adl,a2h,c4,a15 d r]
theorem at3{p:PV→Prop}(h: ∀x,p (c4 x)): ∀(l:List Int),acq p (l.map c4)
 |[]=>trivial
 |x::r=>⟨h x,at3 h r⟩
theorem asi(σ:ASt): ∀(l:List Int),gv σ (l.map c4)=some (l.map c4,[])
 |[]=>rfl
 |x::r=>by simp[gv,pur,c4,asi σ r]
theorem a9r(l:List Int):acq noH (l.map c4)=True:=eq_true (at3 (fun x=> .int .u32 x) l)
theorem a80: ∀{l m:List Int},(l.map c4=m.map c4)=(l=m)
 |l,m=>propext (List.map_inj_right fun a b h=>by simpa [c4] using h)
attribute [go_sem ↓ 1100] bbh bav af9 a5e a94 a15 a2m bap a9r asi
attribute [go_sem ↓] abf
attribute [go_sem] bbq bbu Nat.mul_one a80
end Go.Proofs.Am
