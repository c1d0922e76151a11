/- AmW. -/
import Derived.Test.YteakcpfdfglndaaGreatDoorAmV
set_option linter.unusedSimpArgs false
set_option linter.unusedVariables false
namespace Go.Proofs.Am
open Go Go.RowKit
variable {P:Program}
def vIf(X Y:Prop):Bool→Prop
 |true=>X
 |false=>Y
theorem a1c(X Y:Prop):vIf X Y true=X:=(rfl)
theorem avs(X Y:Prop):vIf X Y false=Y:=(rfl)
theorem jn(X Y:Prop)(b:Bool):vIf X Y b=((b=true→X)∧(b=false→Y)):=by cases b<;>simp[vIf]
theorem ajw(P:Program)(N:Nat)(Q:pv)(fr:AFr)(σ:ASt)(a b:Code)(t:Bool):a8a P N Q fr σ a b (.bool t)=bv t fun t=>vIf (wv P N a Q fr σ) (wv P N b Q fr σ) t:=by
 rw[aaa];simp only[bv,jn]
theorem bgj(P:Program)(all:Array Oper)(op:Op)(d:Option Nat)(r:List Oper)(fr:AFr)(σ:ASt)(K:AFr→ASt→Prop)(t:Nat)(b:Bool):vG P all op d r fr σ K t true (.bool b)=
  bv b fun b=>vIf (evO P op d ((t,.bool true)::fr) σ fun u δ _=>nx P all r ((t,.bool true)::fr) d u σ δ K) (nx P all r ((t,.bool false)::fr) d (.tup []) σ [] K) b:=by
 rw[ajf];simp only[bv,jn,Bool.not_true]
theorem bgg(P:Program)(all:Array Oper)(op:Op)(d:Option Nat)(r:List Oper)(fr:AFr)(σ:ASt)(K:AFr→ASt→Prop)(t:Nat)(b:Bool):vG P all op d r fr σ K t false (.bool b)=
  bv b fun b=>vIf (nx P all r ((t,.bool true)::fr) d (.tup []) σ [] K) (evO P op d ((t,.bool false)::fr) σ fun u δ _=>nx P all r ((t,.bool false)::fr) d u σ δ K) b:=by
 rw[ajf];simp only[bv,jn,Bool.not_false];exact propext and_comm
theorem bfr(P:Program)(all:Array Oper)(op:Op)(d:Option Nat)(r:List Oper)(fr:AFr)(σ:ASt)(g:Log)(K:AFr→ASt→Log→Prop)(t:Nat)(b:Bool):vGD P all op d r fr σ g K t true (.bool b)=
  bv b fun b=>vIf (evO P op d ((t,.bool true)::fr) σ fun u δ F=>bv F fun F=>nxD P all r ((t,.bool true)::fr) d u σ δ g F K) (nxD P all r ((t,.bool false)::fr) d (.tup []) σ [] g [] K) b:=by
 rw[adg];simp only[bv,jn,Bool.not_true]
theorem bfg(P:Program)(all:Array Oper)(op:Op)(d:Option Nat)(r:List Oper)(fr:AFr)(σ:ASt)(g:Log)(K:AFr→ASt→Log→Prop)(t:Nat)(b:Bool):vGD P all op d r fr σ g K t false (.bool b)=
  bv b fun b=>vIf (nxD P all r ((t,.bool true)::fr) d (.tup []) σ [] g [] K) (evO P op d ((t,.bool false)::fr) σ fun u δ F=>bv F fun F=>nxD P all r ((t,.bool false)::fr) d u σ δ g F K) b:=by
 rw[adg];simp only[bv,jn,Bool.not_false];exact propext and_comm
theorem ah7(fr:AFr)(K:KT)(a b:Operand)(t:Bool):a8n fr a b K (.bool t)=bv t fun t=>vIf (kk K (ev fr a) [] []) (kk K (ev fr b) [] []) t:=by
 rw[zh];simp only[bv,jn]
attribute [go_sem ↓ 1100] ah7 a1c avs ajw bgj bgg bfr bfg
attribute [go_sem ↓] jn
def c4(x:Int):PV:= .int .u32 x
theorem bgq(x:Int):PV.int .u32 x=c4 x:=rfl
theorem abo(l:List Int){i:Nat}(h:i<l.length):fm (l.map c4) i= .int .u32 (el l i):=by
 simp[fm,el,List.getD_eq_getElem?_getD,h,c4]
theorem beh(K:KT)(l:List Int)(i:Nat)(d:ASt)(F:List Nat):(i<(l.map c4).length∧kk K (fm (l.map c4) i) d F)=(i<l.length∧K (.int .u32 (el l i)) d F):=by
 simp only[List.length_map,kk]
 refine propext (and_congr_right fun h=> ?_)
 rw[abo l h];rfl
theorem bej(K:KT)(l:List Int)(i:Nat)(n:Nat)(d:ASt)(F:List Nat):(((0:Int)≤(i:Int)∧(i:Int)<(n:Int)∧(i:Int)<((l.map c4).length:Int))∧kk K (fm (l.map c4) (i:Int).toNat) d F)=((i<n∧i<l.length)∧K (.int .u32 (el l i)) d F):=by
 simp only[List.length_map,kk,Int.toNat_natCast]
 apply propext
 constructor
 ·rintro⟨⟨_,h1,h2⟩,h3⟩
  rw[abo l (by omega)]at h3
  exact⟨⟨by omega,by omega⟩,h3⟩
 ·rintro⟨⟨h1,h2⟩,h3⟩
  refine⟨⟨by omega,by omega,by omega⟩,?_⟩
  rw[abo l h2];exact h3
def bdp(n off:Nat)(K:KT):Option Nat→Option (List PV)→Option Box→Prop
 |some m,some us,some (.cells cs)=>(us.length=m∧us.all ge=true∧off+m≤cs.length)∧kk K .undef [(n,.cells (cs.take off++us++cs.drop (off+m)))] [n]
 |_,_,_=>False
theorem afi(P:Program)(σ:ASt)(K:KT)(t:TypeId)(n off:Nat)(v:PV):l8 P t σ (.ptr n off) v K=bv (d7 P t) fun m=>bv (d6 v) fun us=>bv (ah σ n) fun B=>bdp n off K m us B:=by
 rw[yi];rfl
theorem abn(K:KT)(n off m:Nat)(us cs:List PV):bdp n off K (some m) (some us) (some (.cells cs))=((us.length=m∧us.all ge=true∧off+m≤cs.length)∧kk K .undef [(n,.cells (cs.take off++us++cs.drop (off+m)))] [n]):=rfl
theorem a71(K:KT)(n i:Nat)(l:List Int)(v:Int):bdp n i K (some 1) (some [.int .u32 v]) (some (.cells (l.map c4)))=(i<l.length∧kk K .undef [(n,.cells ((l.set i v).map c4))] [n]):=by
 rw[abn]
 simp only[List.length_map,kk]
 apply propext
 have e:i<l.length→(l.map c4).take i++[.int .u32 v]++(l.map c4).drop (i+1)=(l.set i v).map c4:=fun h=>by
  rw[List.map_set,List.set_eq_take_append_cons_drop]
  simp[h,c4]
 constructor
 ·rintro⟨⟨h1,h2,h3⟩,h4⟩
  rw[e h3]at h4
  exact⟨h3,h4⟩
 ·rintro⟨h3,h4⟩
  rw[←e h3]at h4
  exact⟨⟨rfl,rfl,h3⟩,h4⟩
def c8(x:Int):PV:= .int .i64 x
theorem ang(l:List Int){i:Nat}(h:i<l.length):fm (l.map c8) i= .int .i64 (el l i):=by
 simp[fm,el,List.getD_eq_getElem?_getD,h,c8]
theorem bew(K:KT)(l:List Int)(i:Nat)(n:Nat)(d:ASt)(F:List Nat):(((0:Int)≤(i:Int)∧(i:Int)<(n:Int)∧(i:Int)<((l.map c8).length:Int))∧kk K (fm (l.map c8) (i:Int).toNat) d F)=((i<n∧i<l.length)∧K (.int .i64 (el l i)) d F):=by
 simp only[List.length_map,kk,Int.toNat_natCast]
 apply propext
 constructor
 ·rintro⟨⟨_,h1,h2⟩,h3⟩
  rw[ang l (by omega)]at h3
  exact⟨⟨by omega,by omega⟩,h3⟩
 ·rintro⟨⟨h1,h2⟩,h3⟩
  refine⟨⟨by omega,by omega,by omega⟩,?_⟩
  rw[ang l h2];exact h3
theorem a47(d:List Nat): ∀(l:List Int),aht d (l.map c8)=true
 |[]=>rfl
 |x::r=>by simp[aht,a5c,c8,a47 d r]
theorem bbq(l:List Int):(l.map c4).all ge=true:=by simp[c4,ge]
theorem bec(l:List Int)(n:Nat):(l.map c4).take n=(l.take n).map c4:=List.map_take.symm
theorem bf0(l:List Int)(n:Nat):(l.map c4).drop n=(l.drop n).map c4:=List.map_drop.symm
theorem a4c(d:List Nat): ∀(l:List Int),aht d (l.map c4)=true
 |[]=>rfl
 |x::r=>by simp[aht,a5c,c4,a4c d r]
theorem au2{p:PV→Prop}(h: ∀x,p (c4 x)): ∀(l:List Int),adx p (l.map c4)
 |[]=>trivial
 |x::r=>⟨h x,au2 h r⟩
theorem auk(σ:ASt): ∀(l:List Int),ig σ (l.map c4)=some (l.map c4,[])
 |[]=>rfl
 |x::r=>by simp[ig,pur,c4,auk σ r]
theorem bc5(l:List Int):adx noH (l.map c4)=True:=eq_true (au2 (fun x=> .int .u32 x) l)
theorem bck: ∀{l m:List Int},(l.map c4=m.map c4)=(l=m)
 |l,m=>propext (List.map_inj_right fun a b h=>by simpa [c4] using h)
attribute [go_sem ↓ 1100] beh bej afi a71 bbq a4c a47 bew bc5 auk
attribute [go_sem ↓] abn
attribute [go_sem] bec bf0 Nat.mul_one bck
end Go.Proofs.Am
