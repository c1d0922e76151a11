/- AmW. -/
import Derived.Test.YtloaichcpoboeaaGreatDoorAmV
set_option linter.unusedSimpArgs false
set_option linter.unusedVariables false
namespace Go.Proofs.Am
open Go Go.RowKit
variable {P:Program}
def vIf(X Y:Prop):Bool→Prop
 |true=>X
 |false=>Y
theorem a0y(X Y:Prop):vIf X Y true=X:=(rfl)
theorem asf(X Y:Prop):vIf X Y false=Y:=(rfl)
theorem je(X Y:Prop)(b:Bool):vIf X Y b=((b=true→X)∧(b=false→Y)):=by cases b<;>simp[vIf]
theorem aid(P:Program)(N:Nat)(Q:sa)(fr:AFr)(σ:ASt)(a b:Code)(t:Bool):a8i P N Q fr σ a b (.bool t)=bv t fun t=>vIf (wv P N a Q fr σ) (wv P N b Q fr σ) t:=by
 rw[y5];simp only[bv,je]
theorem beg(P:Program)(all:Array Oper)(op:Op)(d:Option Nat)(r:List Oper)(fr:AFr)(σ:ASt)(K:AFr→ASt→Prop)(t:Nat)(b:Bool):vG P all op d r fr σ K t true (.bool b)=
  bv b fun b=>vIf (evO P op d ((t,.bool true)::fr) σ fun u δ _=>nx P all r ((t,.bool true)::fr) d u σ δ K) (nx P all r ((t,.bool false)::fr) d (.tup []) σ [] K) b:=by
 rw[ai0];simp only[bv,je,Bool.not_true]
theorem bei(P:Program)(all:Array Oper)(op:Op)(d:Option Nat)(r:List Oper)(fr:AFr)(σ:ASt)(K:AFr→ASt→Prop)(t:Nat)(b:Bool):vG P all op d r fr σ K t false (.bool b)=
  bv b fun b=>vIf (nx P all r ((t,.bool true)::fr) d (.tup []) σ [] K) (evO P op d ((t,.bool false)::fr) σ fun u δ _=>nx P all r ((t,.bool false)::fr) d u σ δ K) b:=by
 rw[ai0];simp only[bv,je,Bool.not_false];exact propext and_comm
theorem bdm(P:Program)(all:Array Oper)(op:Op)(d:Option Nat)(r:List Oper)(fr:AFr)(σ:ASt)(g:Log)(K:AFr→ASt→Log→Prop)(t:Nat)(b:Bool):vGD P all op d r fr σ g K t true (.bool b)=
  bv b fun b=>vIf (evO P op d ((t,.bool true)::fr) σ fun u δ F=>bv F fun F=>nxD P all r ((t,.bool true)::fr) d u σ δ g F K) (nxD P all r ((t,.bool false)::fr) d (.tup []) σ [] g [] K) b:=by
 rw[aa4];simp only[bv,je,Bool.not_true]
theorem bc5(P:Program)(all:Array Oper)(op:Op)(d:Option Nat)(r:List Oper)(fr:AFr)(σ:ASt)(g:Log)(K:AFr→ASt→Log→Prop)(t:Nat)(b:Bool):vGD P all op d r fr σ g K t false (.bool b)=
  bv b fun b=>vIf (nxD P all r ((t,.bool true)::fr) d (.tup []) σ [] g [] K) (evO P op d ((t,.bool false)::fr) σ fun u δ F=>bv F fun F=>nxD P all r ((t,.bool false)::fr) d u σ δ g F K) b:=by
 rw[aa4];simp only[bv,je,Bool.not_false];exact propext and_comm
theorem ahu(fr:AFr)(K:KT)(a b:Operand)(t:Bool):a7c fr a b K (.bool t)=bv t fun t=>vIf (kk K (ev fr a) [] []) (kk K (ev fr b) [] []) t:=by
 rw[zw];simp only[bv,je]
attribute [go_sem ↓ 1100] ahu a0y asf aid beg bei bdm bc5
attribute [go_sem ↓] je
def c4(x:Int):PV:= .int .u32 x
theorem bef(x:Int):PV.int .u32 x=c4 x:=rfl
theorem aa6(l:List Int){i:Nat}(h:i<l.length):eh (l.map c4) i= .int .u32 (el l i):=by
 simp[eh,el,List.getD_eq_getElem?_getD,h,c4]
theorem bdk(K:KT)(l:List Int)(i:Nat)(d:ASt)(F:List Nat):(i<(l.map c4).length∧kk K (eh (l.map c4) i) d F)=(i<l.length∧K (.int .u32 (el l i)) d F):=by
 simp only[List.length_map,kk]
 refine propext (and_congr_right fun h=> ?_)
 rw[aa6 l h];rfl
theorem bcl(K:KT)(l:List Int)(i:Nat)(n:Nat)(d:ASt)(F:List Nat):(((0:Int)≤(i:Int)∧(i:Int)<(n:Int)∧(i:Int)<((l.map c4).length:Int))∧kk K (eh (l.map c4) (i:Int).toNat) d F)=((i<n∧i<l.length)∧K (.int .u32 (el l i)) d F):=by
 simp only[List.length_map,kk,Int.toNat_natCast]
 apply propext
 constructor
 ·rintro⟨⟨_,h1,h2⟩,h3⟩
  rw[aa6 l (by omega)]at h3
  exact⟨⟨by omega,by omega⟩,h3⟩
 ·rintro⟨⟨h1,h2⟩,h3⟩
  refine⟨⟨by omega,by omega,by omega⟩,?_⟩
  rw[aa6 l h2];exact h3
def bb5(n off:Nat)(K:KT):Option Nat→Option (List PV)→Option Box→Prop
 |some m,some us,some (.cells cs)=>(us.length=m∧us.all eu=true∧off+m≤cs.length)∧kk K .undef [(n,.cells (cs.take off++us++cs.drop (off+m)))] [n]
 |_,_,_=>False
theorem afh(P:Program)(σ:ASt)(K:KT)(t:TypeId)(n off:Nat)(v:PV):kx P t σ (.ptr n off) v K=bv (bx P t) fun m=>bv (c9 v) fun us=>bv (ac σ n) fun B=>bb5 n off K m us B:=by
 rw[vo];rfl
theorem acy(K:KT)(n off m:Nat)(us cs:List PV):bb5 n off K (some m) (some us) (some (.cells cs))=((us.length=m∧us.all eu=true∧off+m≤cs.length)∧kk K .undef [(n,.cells (cs.take off++us++cs.drop (off+m)))] [n]):=rfl
theorem a4n(K:KT)(n i:Nat)(l:List Int)(v:Int):bb5 n i K (some 1) (some [.int .u32 v]) (some (.cells (l.map c4)))=(i<l.length∧kk K .undef [(n,.cells ((l.set i v).map c4))] [n]):=by
 rw[acy]
 simp only[List.length_map,kk]
 apply propext
 have e:i<l.length→(l.map c4).take i++[.int .u32 v]++(l.map c4).drop (i+1)=(l.set i v).map c4:=fun h=>by
  rw[List.map_set,List.set_eq_take_append_cons_drop]
  simp[h,c4]
 constructor
 ·rintro⟨⟨h1,h2,h3⟩,h4⟩
  rw[e h3]at h4
  exact⟨h3,h4⟩
 ·rintro⟨h3,h4⟩
  rw[←e h3]at h4
  exact⟨⟨rfl,rfl,h3⟩,h4⟩
def c8(x:Int):PV:= .int .i64 x
theorem ali(l:List Int){i:Nat}(h:i<l.length):eh (l.map c8) i= .int .i64 (el l i):=by
 simp[eh,el,List.getD_eq_getElem?_getD,h,c8]
theorem bdx(K:KT)(l:List Int)(i:Nat)(n:Nat)(d:ASt)(F:List Nat):(((0:Int)≤(i:Int)∧(i:Int)<(n:Int)∧(i:Int)<((l.map c8).length:Int))∧kk K (eh (l.map c8) (i:Int).toNat) d F)=((i<n∧i<l.length)∧K (.int .i64 (el l i)) d F):=by
 simp only[List.length_map,kk,Int.toNat_natCast]
 apply propext
 constructor
 ·rintro⟨⟨_,h1,h2⟩,h3⟩
  rw[ali l (by omega)]at h3
  exact⟨⟨by omega,by omega⟩,h3⟩
 ·rintro⟨⟨h1,h2⟩,h3⟩
  refine⟨⟨by omega,by omega,by omega⟩,?_⟩
  rw[ali l h2];exact h3
theorem a30(d:List Nat): ∀(l:List Int),agv d (l.map c8)=true
 |[]=>rfl
 |x::r=>by simp[agv,a3z,c8,a30 d r]
theorem bbp(l:List Int):(l.map c4).all eu=true:=by simp[c4,eu]
theorem bcg(l:List Int)(n:Nat):(l.map c4).take n=(l.take n).map c4:=List.map_take.symm
theorem bc1(l:List Int)(n:Nat):(l.map c4).drop n=(l.drop n).map c4:=List.map_drop.symm
theorem a3h(d:List Nat): ∀(l:List Int),agv d (l.map c4)=true
 |[]=>rfl
 |x::r=>by simp[agv,a3z,c4,a3h d r]
theorem ar2{p:PV→Prop}(h: ∀x,p (c4 x)): ∀(l:List Int),xv p (l.map c4)
 |[]=>trivial
 |x::r=>⟨h x,ar2 h r⟩
theorem avu(σ:ASt): ∀(l:List Int),f9 σ (l.map c4)=some (l.map c4,[])
 |[]=>rfl
 |x::r=>by simp[f9,pur,c4,avu σ r]
theorem baf(l:List Int):xv noH (l.map c4)=True:=eq_true (ar2 (fun x=> .int .u32 x) l)
theorem bag: ∀{l m:List Int},(l.map c4=m.map c4)=(l=m)
 |l,m=>propext (List.map_inj_right fun a b h=>by simpa [c4] using h)
attribute [go_sem ↓ 1100] bdk bcl afh a4n bbp a3h a30 bdx baf avu
attribute [go_sem ↓] acy
attribute [go_sem] bcg bc1 Nat.mul_one bag
end Go.Proofs.Am
