/- AmW. -/
import Derived.Test.YtloaichcpoboeaaGreatDoorAmV
set_option linter.unusedSimpArgs false
set_option linter.unusedVariables false
namespace Go.Proofs.Am
open Go Go.RowKit
variable {P:Program}
def vIf(X Y:Prop):Bool→Prop
 |true=>X
 |false=>Y
theorem a00(X Y:Prop):vIf X Y true=X:=(rfl)
theorem avf(X Y:Prop):vIf X Y false=Y:=(rfl)
theorem jb(X Y:Prop)(b:Bool):vIf X Y b=((b=true→X)∧(b=false→Y)):=by cases b<;>simp[vIf]
theorem ajf(P:Program)(N:Nat)(Q:rp)(fr:AFr)(σ:ASt)(a b:Code)(t:Bool):a8q P N Q fr σ a b (.bool t)=bv t fun t=>vIf (wv P N a Q fr σ) (wv P N b Q fr σ) t:=by
 rw[zz];simp only[bv,jb]
theorem ben(P:Program)(all:Array Oper)(op:Op)(d:Option Nat)(r:List Oper)(fr:AFr)(σ:ASt)(K:AFr→ASt→Prop)(t:Nat)(b:Bool):vG P all op d r fr σ K t true (.bool b)=
  bv b fun b=>vIf (evO P op d ((t,.bool true)::fr) σ fun u δ _=>nx P all r ((t,.bool true)::fr) d u σ δ K) (nx P all r ((t,.bool false)::fr) d (.tup []) σ [] K) b:=by
 rw[ajz];simp only[bv,jb,Bool.not_true]
theorem bef(P:Program)(all:Array Oper)(op:Op)(d:Option Nat)(r:List Oper)(fr:AFr)(σ:ASt)(K:AFr→ASt→Prop)(t:Nat)(b:Bool):vG P all op d r fr σ K t false (.bool b)=
  bv b fun b=>vIf (nx P all r ((t,.bool true)::fr) d (.tup []) σ [] K) (evO P op d ((t,.bool false)::fr) σ fun u δ _=>nx P all r ((t,.bool false)::fr) d u σ δ K) b:=by
 rw[ajz];simp only[bv,jb,Bool.not_false];exact propext and_comm
theorem bcu(P:Program)(all:Array Oper)(op:Op)(d:Option Nat)(r:List Oper)(fr:AFr)(σ:ASt)(g:Log)(K:AFr→ASt→Log→Prop)(t:Nat)(b:Bool):vGD P all op d r fr σ g K t true (.bool b)=
  bv b fun b=>vIf (evO P op d ((t,.bool true)::fr) σ fun u δ F=>bv F fun F=>nxD P all r ((t,.bool true)::fr) d u σ δ g F K) (nxD P all r ((t,.bool false)::fr) d (.tup []) σ [] g [] K) b:=by
 rw[acf];simp only[bv,jb,Bool.not_true]
theorem bc7(P:Program)(all:Array Oper)(op:Op)(d:Option Nat)(r:List Oper)(fr:AFr)(σ:ASt)(g:Log)(K:AFr→ASt→Log→Prop)(t:Nat)(b:Bool):vGD P all op d r fr σ g K t false (.bool b)=
  bv b fun b=>vIf (nxD P all r ((t,.bool true)::fr) d (.tup []) σ [] g [] K) (evO P op d ((t,.bool false)::fr) σ fun u δ F=>bv F fun F=>nxD P all r ((t,.bool false)::fr) d u σ δ g F K) b:=by
 rw[acf];simp only[bv,jb,Bool.not_false];exact propext and_comm
theorem ajd(fr:AFr)(K:KT)(a b:Operand)(t:Bool):a6r fr a b K (.bool t)=bv t fun t=>vIf (kk K (ev fr a) [] []) (kk K (ev fr b) [] []) t:=by
 rw[yj];simp only[bv,jb]
attribute [go_sem ↓ 1100] ajd a00 avf ajf ben bef bcu bc7
attribute [go_sem ↓] jb
def c4(x:Int):PV:= .int .u32 x
theorem beg(x:Int):PV.int .u32 x=c4 x:=rfl
theorem aay(l:List Int){i:Nat}(h:i<l.length):ej (l.map c4) i= .int .u32 (el l i):=by
 simp[ej,el,List.getD_eq_getElem?_getD,h,c4]
theorem bdu(K:KT)(l:List Int)(i:Nat)(d:ASt)(F:List Nat):(i<(l.map c4).length∧kk K (ej (l.map c4) i) d F)=(i<l.length∧K (.int .u32 (el l i)) d F):=by
 simp only[List.length_map,kk]
 refine propext (and_congr_right fun h=> ?_)
 rw[aay l h];rfl
theorem bdo(K:KT)(l:List Int)(i:Nat)(n:Nat)(d:ASt)(F:List Nat):(((0:Int)≤(i:Int)∧(i:Int)<(n:Int)∧(i:Int)<((l.map c4).length:Int))∧kk K (ej (l.map c4) (i:Int).toNat) d F)=((i<n∧i<l.length)∧K (.int .u32 (el l i)) d F):=by
 simp only[List.length_map,kk,Int.toNat_natCast]
 apply propext
 constructor
 ·rintro⟨⟨_,h1,h2⟩,h3⟩
  rw[aay l (by omega)]at h3
  exact⟨⟨by omega,by omega⟩,h3⟩
 ·rintro⟨⟨h1,h2⟩,h3⟩
  refine⟨⟨by omega,by omega,by omega⟩,?_⟩
  rw[aay l h2];exact h3
def bce(n off:Nat)(K:KT):Option Nat→Option (List PV)→Option Box→Prop
 |some m,some us,some (.cells cs)=>(us.length=m∧us.all ew=true∧off+m≤cs.length)∧kk K .undef [(n,.cells (cs.take off++us++cs.drop (off+m)))] [n]
 |_,_,_=>False
theorem ae4(P:Program)(σ:ASt)(K:KT)(t:TypeId)(n off:Nat)(v:PV):ld P t σ (.ptr n off) v K=bv (bx P t) fun m=>bv (da v) fun us=>bv (ac σ n) fun B=>bce n off K m us B:=by
 rw[un];rfl
theorem aah(K:KT)(n off m:Nat)(us cs:List PV):bce n off K (some m) (some us) (some (.cells cs))=((us.length=m∧us.all ew=true∧off+m≤cs.length)∧kk K .undef [(n,.cells (cs.take off++us++cs.drop (off+m)))] [n]):=rfl
theorem a6a(K:KT)(n i:Nat)(l:List Int)(v:Int):bce n i K (some 1) (some [.int .u32 v]) (some (.cells (l.map c4)))=(i<l.length∧kk K .undef [(n,.cells ((l.set i v).map c4))] [n]):=by
 rw[aah]
 simp only[List.length_map,kk]
 apply propext
 have e:i<l.length→(l.map c4).take i++[.int .u32 v]++(l.map c4).drop (i+1)=(l.set i v).map c4:=fun h=>by
  rw[List.map_set,List.set_eq_take_append_cons_drop]
  simp[h,c4]
 constructor
 ·rintro⟨⟨h1,h2,h3⟩,h4⟩
  rw[e h3]at h4
  exact⟨h3,h4⟩
 ·rintro⟨h3,h4⟩
  rw[←e h3]at h4
  exact⟨⟨rfl,rfl,h3⟩,h4⟩
def c8(x:Int):PV:= .int .i64 x
theorem alg(l:List Int){i:Nat}(h:i<l.length):ej (l.map c8) i= .int .i64 (el l i):=by
 simp[ej,el,List.getD_eq_getElem?_getD,h,c8]
theorem bdi(K:KT)(l:List Int)(i:Nat)(n:Nat)(d:ASt)(F:List Nat):(((0:Int)≤(i:Int)∧(i:Int)<(n:Int)∧(i:Int)<((l.map c8).length:Int))∧kk K (ej (l.map c8) (i:Int).toNat) d F)=((i<n∧i<l.length)∧K (.int .i64 (el l i)) d F):=by
 simp only[List.length_map,kk,Int.toNat_natCast]
 apply propext
 constructor
 ·rintro⟨⟨_,h1,h2⟩,h3⟩
  rw[alg l (by omega)]at h3
  exact⟨⟨by omega,by omega⟩,h3⟩
 ·rintro⟨⟨h1,h2⟩,h3⟩
  refine⟨⟨by omega,by omega,by omega⟩,?_⟩
  rw[alg l h2];exact h3
theorem a3j(d:List Nat): ∀(l:List Int),ag3 d (l.map c8)=true
 |[]=>rfl
 |x::r=>by simp[ag3,a35,c8,a3j d r]
theorem baz(l:List Int):(l.map c4).all ew=true:=by simp[c4,ew]
theorem bdk(l:List Int)(n:Nat):(l.map c4).take n=(l.take n).map c4:=List.map_take.symm
theorem bdj(l:List Int)(n:Nat):(l.map c4).drop n=(l.drop n).map c4:=List.map_drop.symm
theorem a31(d:List Nat): ∀(l:List Int),ag3 d (l.map c4)=true
 |[]=>rfl
 |x::r=>by simp[ag3,a35,c4,a31 d r]
theorem asa{p:PV→Prop}(h: ∀x,p (c4 x)): ∀(l:List Int),x4 p (l.map c4)
 |[]=>trivial
 |x::r=>⟨h x,asa h r⟩
theorem aul(σ:ASt): ∀(l:List Int),fx σ (l.map c4)=some (l.map c4,[])
 |[]=>rfl
 |x::r=>by simp[fx,pur,c4,aul σ r]
theorem bah(l:List Int):x4 noH (l.map c4)=True:=eq_true (asa (fun x=> .int .u32 x) l)
theorem a9f: ∀{l m:List Int},(l.map c4=m.map c4)=(l=m)
 |l,m=>propext (List.map_inj_right fun a b h=>by simpa [c4] using h)
attribute [go_sem ↓ 1100] bdu bdo ae4 a6a baz a31 a3j bdi bah aul
attribute [go_sem ↓] aah
attribute [go_sem] bdk bdj Nat.mul_one a9f
end Go.Proofs.Am
