/- AmW. -/
import Derived.Test.YteakcpfdfglndaaGreatDoorAmV
set_option linter.unusedSimpArgs false
set_option linter.unusedVariables false
namespace Go.Proofs.Am
open Go Go.RowKit
variable {P:Program}
def vIf(X Y:Prop):Bool→Prop
 |true=>X
 |false=>Y
theorem a0x(X Y:Prop):vIf X Y true=X:=(rfl)
theorem ar2(X Y:Prop):vIf X Y false=Y:=(rfl)
theorem i9(X Y:Prop)(b:Bool):vIf X Y b=((b=true→X)∧(b=false→Y)):=by cases b<;>simp[vIf]
theorem ahd(P:Program)(N:Nat)(Q:td)(fr:AFr)(σ:ASt)(a b:Code)(t:Bool):a4c P N Q fr σ a b (.bool t)=bv t fun t=>vIf (wv P N a Q fr σ) (wv P N b Q fr σ) t:=by
 rw[aam];simp only[bv,i9]
theorem beu(P:Program)(all:Array Oper)(op:Op)(d:Option Nat)(r:List Oper)(fr:AFr)(σ:ASt)(K:AFr→ASt→Prop)(t:Nat)(b:Bool):vG P all op d r fr σ K t true (.bool b)=
  bv b fun b=>vIf (evO P op d ((t,.bool true)::fr) σ fun u δ _=>nx P all r ((t,.bool true)::fr) d u σ δ K) (nx P all r ((t,.bool false)::fr) d (.tup []) σ [] K) b:=by
 rw[aji];simp only[bv,i9,Bool.not_true]
theorem bez(P:Program)(all:Array Oper)(op:Op)(d:Option Nat)(r:List Oper)(fr:AFr)(σ:ASt)(K:AFr→ASt→Prop)(t:Nat)(b:Bool):vG P all op d r fr σ K t false (.bool b)=
  bv b fun b=>vIf (nx P all r ((t,.bool true)::fr) d (.tup []) σ [] K) (evO P op d ((t,.bool false)::fr) σ fun u δ _=>nx P all r ((t,.bool false)::fr) d u σ δ K) b:=by
 rw[aji];simp only[bv,i9,Bool.not_false];exact propext and_comm
theorem bdj(P:Program)(all:Array Oper)(op:Op)(d:Option Nat)(r:List Oper)(fr:AFr)(σ:ASt)(g:Log)(K:AFr→ASt→Log→Prop)(t:Nat)(b:Bool):vGD P all op d r fr σ g K t true (.bool b)=
  bv b fun b=>vIf (evO P op d ((t,.bool true)::fr) σ fun u δ F=>bv F fun F=>nxD P all r ((t,.bool true)::fr) d u σ δ g F K) (nxD P all r ((t,.bool false)::fr) d (.tup []) σ [] g [] K) b:=by
 rw[abv];simp only[bv,i9,Bool.not_true]
theorem bcv(P:Program)(all:Array Oper)(op:Op)(d:Option Nat)(r:List Oper)(fr:AFr)(σ:ASt)(g:Log)(K:AFr→ASt→Log→Prop)(t:Nat)(b:Bool):vGD P all op d r fr σ g K t false (.bool b)=
  bv b fun b=>vIf (nxD P all r ((t,.bool true)::fr) d (.tup []) σ [] g [] K) (evO P op d ((t,.bool false)::fr) σ fun u δ F=>bv F fun F=>nxD P all r ((t,.bool false)::fr) d u σ δ g F K) b:=by
 rw[abv];simp only[bv,i9,Bool.not_false];exact propext and_comm
theorem ahq(fr:AFr)(K:KT)(a b:Operand)(t:Bool):a5u fr a b K (.bool t)=bv t fun t=>vIf (kk K (ev fr a) [] []) (kk K (ev fr b) [] []) t:=by
 rw[aao];simp only[bv,i9]
attribute [go_sem ↓ 1100] ahq a0x ar2 ahd beu bez bdj bcv
attribute [go_sem ↓] i9
def c4(x:Int):PV:= .int .u32 x
theorem be5(x:Int):PV.int .u32 x=c4 x:=rfl
theorem aa9(l:List Int){i:Nat}(h:i<l.length):ff (l.map c4) i= .int .u32 (el l i):=by
 simp[ff,el,List.getD_eq_getElem?_getD,h,c4]
theorem bco(K:KT)(l:List Int)(i:Nat)(d:ASt)(F:List Nat):(i<(l.map c4).length∧kk K (ff (l.map c4) i) d F)=(i<l.length∧K (.int .u32 (el l i)) d F):=by
 simp only[List.length_map,kk]
 refine propext (and_congr_right fun h=> ?_)
 rw[aa9 l h];rfl
theorem bcf(K:KT)(l:List Int)(i:Nat)(n:Nat)(d:ASt)(F:List Nat):(((0:Int)≤(i:Int)∧(i:Int)<(n:Int)∧(i:Int)<((l.map c4).length:Int))∧kk K (ff (l.map c4) (i:Int).toNat) d F)=((i<n∧i<l.length)∧K (.int .u32 (el l i)) d F):=by
 simp only[List.length_map,kk,Int.toNat_natCast]
 apply propext
 constructor
 ·rintro⟨⟨_,h1,h2⟩,h3⟩
  rw[aa9 l (by omega)]at h3
  exact⟨⟨by omega,by omega⟩,h3⟩
 ·rintro⟨⟨h1,h2⟩,h3⟩
  refine⟨⟨by omega,by omega,by omega⟩,?_⟩
  rw[aa9 l h2];exact h3
def bbv(n off:Nat)(K:KT):Option Nat→Option (List PV)→Option Box→Prop
 |some m,some us,some (.cells cs)=>(us.length=m∧us.all fw=true∧off+m≤cs.length)∧kk K .undef [(n,.cells (cs.take off++us++cs.drop (off+m)))] [n]
 |_,_,_=>False
theorem af6(P:Program)(σ:ASt)(K:KT)(t:TypeId)(n off:Nat)(v:PV):kx P t σ (.ptr n off) v K=bv (du P t) fun m=>bv (dt v) fun us=>bv (ag σ n) fun B=>bbv n off K m us B:=by
 rw[ux];rfl
theorem acl(K:KT)(n off m:Nat)(us cs:List PV):bbv n off K (some m) (some us) (some (.cells cs))=((us.length=m∧us.all fw=true∧off+m≤cs.length)∧kk K .undef [(n,.cells (cs.take off++us++cs.drop (off+m)))] [n]):=rfl
theorem a7z(K:KT)(n i:Nat)(l:List Int)(v:Int):bbv n i K (some 1) (some [.int .u32 v]) (some (.cells (l.map c4)))=(i<l.length∧kk K .undef [(n,.cells ((l.set i v).map c4))] [n]):=by
 rw[acl]
 simp only[List.length_map,kk]
 apply propext
 have e:i<l.length→(l.map c4).take i++[.int .u32 v]++(l.map c4).drop (i+1)=(l.set i v).map c4:=fun h=>by
  rw[List.map_set,List.set_eq_take_append_cons_drop]
  simp[h,c4]
 constructor
 ·rintro⟨⟨h1,h2,h3⟩,h4⟩
  rw[e h3]at h4
  exact⟨h3,h4⟩
 ·rintro⟨h3,h4⟩
  rw[←e h3]at h4
  exact⟨⟨rfl,rfl,h3⟩,h4⟩
def c8(x:Int):PV:= .int .i64 x
theorem amh(l:List Int){i:Nat}(h:i<l.length):ff (l.map c8) i= .int .i64 (el l i):=by
 simp[ff,el,List.getD_eq_getElem?_getD,h,c8]
theorem bdb(K:KT)(l:List Int)(i:Nat)(n:Nat)(d:ASt)(F:List Nat):(((0:Int)≤(i:Int)∧(i:Int)<(n:Int)∧(i:Int)<((l.map c8).length:Int))∧kk K (ff (l.map c8) (i:Int).toNat) d F)=((i<n∧i<l.length)∧K (.int .i64 (el l i)) d F):=by
 simp only[List.length_map,kk,Int.toNat_natCast]
 apply propext
 constructor
 ·rintro⟨⟨_,h1,h2⟩,h3⟩
  rw[amh l (by omega)]at h3
  exact⟨⟨by omega,by omega⟩,h3⟩
 ·rintro⟨⟨h1,h2⟩,h3⟩
  refine⟨⟨by omega,by omega,by omega⟩,?_⟩
  rw[amh l h2];exact h3
theorem a3t(d:List Nat): ∀(l:List Int),afi d (l.map c8)=true
 |[]=>rfl
 |x::r=>by simp[afi,a2v,c8,a3t d r]
theorem ba3(l:List Int):(l.map c4).all fw=true:=by simp[c4,fw]
theorem bcl(l:List Int)(n:Nat):(l.map c4).take n=(l.take n).map c4:=List.map_take.symm
theorem bdf(l:List Int)(n:Nat):(l.map c4).drop n=(l.drop n).map c4:=List.map_drop.symm
theorem a3f(d:List Nat): ∀(l:List Int),afi d (l.map c4)=true
 |[]=>rfl
 |x::r=>by simp[afi,a2v,c4,a3f d r]
theorem avv{p:PV→Prop}(h: ∀x,p (c4 x)): ∀(l:List Int),ada p (l.map c4)
 |[]=>trivial
 |x::r=>⟨h x,avv h r⟩
theorem au2(σ:ASt): ∀(l:List Int),gq σ (l.map c4)=some (l.map c4,[])
 |[]=>rfl
 |x::r=>by simp[gq,pur,c4,au2 σ r]
theorem a8g(l:List Int):ada noH (l.map c4)=True:=eq_true (avv (fun x=> .int .u32 x) l)
theorem a8f: ∀{l m:List Int},(l.map c4=m.map c4)=(l=m)
 |l,m=>propext (List.map_inj_right fun a b h=>by simpa [c4] using h)
attribute [go_sem ↓ 1100] bco bcf af6 a7z ba3 a3f a3t bdb a8g au2
attribute [go_sem ↓] acl
attribute [go_sem] bcl bdf Nat.mul_one a8f
end Go.Proofs.Am
