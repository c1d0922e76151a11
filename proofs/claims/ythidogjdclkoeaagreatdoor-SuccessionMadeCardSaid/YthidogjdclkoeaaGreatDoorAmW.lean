/- AmW. -/
import Derived.Test.YthidogjdclkoeaaGreatDoorAmV
set_option linter.unusedSimpArgs false
set_option linter.unusedVariables false
namespace Go.Proofs.Am
open Go Go.RowKit
variable {P:Program}
def vIf(X Y:Prop):Bool->Prop
 |true=>X
 |false=>Y
theorem aye(X Y:Prop):vIf X Y true=X:=(rfl)
theorem aua(X Y:Prop):vIf X Y false=Y:=(rfl)
theorem je(X Y:Prop)(b:Bool):vIf X Y b=((b=true->X)/\(b=false->Y)):=by cases b<;>simp[vIf]
theorem aiu(P:Program)(N:Nat)(Q:o8)(fr:AFr)(σ:ASt)(a b:Code)(t:Bool):a0w P N Q fr σ a b (.bool t)=bv t fun t=>vIf (wv P N a Q fr σ) (wv P N b Q fr σ) t:=by
 rw[yx];simp only[bv,je]
theorem a96(P:Program)(all:Array Oper)(op:Op)(d:Option Nat)(r:List Oper)(fr:AFr)(σ:ASt)(K:AFr->ASt->Prop)(t:Nat)(b:Bool):vG P all op d r fr σ K t true (.bool b)=
  bv b fun b=>vIf (evO P op d ((t,.bool true)::fr) σ fun u δ _=>nx P all r ((t,.bool true)::fr) d u σ δ K) (nx P all r ((t,.bool false)::fr) d (.tup []) σ [] K) b:=by
 rw[ahz];simp only[bv,je,Bool.not_true]
theorem a94(P:Program)(all:Array Oper)(op:Op)(d:Option Nat)(r:List Oper)(fr:AFr)(σ:ASt)(K:AFr->ASt->Prop)(t:Nat)(b:Bool):vG P all op d r fr σ K t false (.bool b)=
  bv b fun b=>vIf (nx P all r ((t,.bool true)::fr) d (.tup []) σ [] K) (evO P op d ((t,.bool false)::fr) σ fun u δ _=>nx P all r ((t,.bool false)::fr) d u σ δ K) b:=by
 rw[ahz];simp only[bv,je,Bool.not_false];exact propext and_comm
theorem a8v(P:Program)(all:Array Oper)(op:Op)(d:Option Nat)(r:List Oper)(fr:AFr)(σ:ASt)(g:Log)(K:AFr->ASt->Log->Prop)(t:Nat)(b:Bool):vGD P all op d r fr σ g K t true (.bool b)=
  bv b fun b=>vIf (evO P op d ((t,.bool true)::fr) σ fun u δ F=>bv F fun F=>nxD P all r ((t,.bool true)::fr) d u σ δ g F K) (nxD P all r ((t,.bool false)::fr) d (.tup []) σ [] g [] K) b:=by
 rw[aa9];simp only[bv,je,Bool.not_true]
theorem a8e(P:Program)(all:Array Oper)(op:Op)(d:Option Nat)(r:List Oper)(fr:AFr)(σ:ASt)(g:Log)(K:AFr->ASt->Log->Prop)(t:Nat)(b:Bool):vGD P all op d r fr σ g K t false (.bool b)=
  bv b fun b=>vIf (nxD P all r ((t,.bool true)::fr) d (.tup []) σ [] g [] K) (evO P op d ((t,.bool false)::fr) σ fun u δ F=>bv F fun F=>nxD P all r ((t,.bool false)::fr) d u σ δ g F K) b:=by
 rw[aa9];simp only[bv,je,Bool.not_false];exact propext and_comm
theorem aij(fr:AFr)(K:KT)(a b:Operand)(t:Bool):a1i fr a b K (.bool t)=bv t fun t=>vIf (kk K (ev fr a) [] []) (kk K (ev fr b) [] []) t:=by
 rw[zp];simp only[bv,je]
attribute [go_sem ↓ 1100] aij aye aua aiu a96 a94 a8v a8e
attribute [go_sem ↓] je
def c4(x:Int):PV:= .int .u32 x
theorem a92(x:Int):PV.int .u32 x=c4 x:=rfl
theorem ab7(l:List Int){i:Nat}(h:i<l.length):fc (l.map c4) i= .int .u32 (el l i):=by
 simp[fc,el,bq,h,c4]
theorem a8y(K:KT)(l:List Int)(i:Nat)(d:ASt)(F:List Nat):(i<(l.map c4).length/\kk K (fc (l.map c4) i) d F)=(i<l.length/\K (.int .u32 (el l i)) d F):=by
 simp only[List.length_map,kk];refine propext (and_congr_right fun h=> ?_);rw[ab7 l h];rfl
theorem a8d(K:KT)(l:List Int)(i:Nat)(n:Nat)(d:ASt)(F:List Nat):(((0:Int)<=(i:Int)/\(i:Int)<(n:Int)/\(i:Int)<((l.map c4).length:Int))/\kk K (fc (l.map c4) (i:Int).toNat) d F)=((i<n/\i<l.length)/\K (.int .u32 (el l i)) d F):=by
 simp only[List.length_map,kk,Int.toNat_natCast];apply propext;constructor
 ·rintro⟨⟨_,h1,h2⟩,h3⟩;rw[ab7 l (by omega)]at h3;exact⟨⟨by omega,by omega⟩,h3⟩
 ·rintro⟨⟨h1,h2⟩,h3⟩;refine⟨⟨by omega,by omega,by omega⟩,?_⟩;rw[ab7 l h2];exact h3
def a7z(n off:Nat)(K:KT):Option Nat->Option (List PV)->Option Box->Prop
 |some m,some us,some (.cells cs)=>(us.length=m/\us.all eh=true/\off+m<=cs.length)/\kk K .undef [(n,.cells (cs.take off++us++cs.drop (off+m)))] [n]
 |_,_,_=>False
theorem ae3(P:Program)(σ:ASt)(K:KT)(t:TypeId)(n off:Nat)(v:PV):lq P t σ (.ptr n off) v K=bv (du P t) fun m=>bv (dl v) fun us=>bv (ah σ n) fun B=>a7z n off K m us B:=by
 rw[ww];rfl
theorem ab8(K:KT)(n off m:Nat)(us cs:List PV):a7z n off K (some m) (some us) (some (.cells cs))=((us.length=m/\us.all eh=true/\off+m<=cs.length)/\kk K .undef [(n,.cells (cs.take off++us++cs.drop (off+m)))] [n]):=rfl
theorem a07(K:KT)(n i:Nat)(l:List Int)(v:Int):a7z n i K (some 1) (some [.int .u32 v]) (some (.cells (l.map c4)))=(i<l.length/\kk K .undef [(n,.cells ((l.set i v).map c4))] [n]):=by
 rw[ab8];simp only[List.length_map,kk];apply propext
 have e:i<l.length->(l.map c4).take i++[.int .u32 v]++(l.map c4).drop (i+1)=(l.set i v).map c4:=fun h=>by
  rw[List.map_set,List.set_eq_take_append_cons_drop];simp[h,c4]
 constructor
 ·rintro⟨⟨h1,h2,h3⟩,h4⟩;rw[e h3]at h4;exact⟨h3,h4⟩
 ·rintro⟨h3,h4⟩;rw[<-e h3]at h4;exact⟨⟨rfl,rfl,h3⟩,h4⟩
def c8(x:Int):PV:= .int .i64 x
theorem ale(l:List Int){i:Nat}(h:i<l.length):fc (l.map c8) i= .int .i64 (el l i):=by
 simp[fc,el,bq,h,c8]
theorem a9e(K:KT)(l:List Int)(i:Nat)(n:Nat)(d:ASt)(F:List Nat):(((0:Int)<=(i:Int)/\(i:Int)<(n:Int)/\(i:Int)<((l.map c8).length:Int))/\kk K (fc (l.map c8) (i:Int).toNat) d F)=((i<n/\i<l.length)/\K (.int .i64 (el l i)) d F):=by
 simp only[List.length_map,kk,Int.toNat_natCast];apply propext;constructor
 ·rintro⟨⟨_,h1,h2⟩,h3⟩;rw[ale l (by omega)]at h3;exact⟨⟨by omega,by omega⟩,h3⟩
 ·rintro⟨⟨h1,h2⟩,h3⟩;refine⟨⟨by omega,by omega,by omega⟩,?_⟩;rw[ale l h2];exact h3
theorem azt(d:List Nat): ∀(l:List Int),acw d (l.map c8)=true
 |[]=>rfl
 |x::r=>by simp[acw,as3,c8,azt d r]
theorem a5g(l:List Int):(l.map c4).all eh=true:=by simp[c4,eh]
theorem a9j(l:List Int)(n:Nat):(l.map c4).take n=(l.take n).map c4:=List.map_take.symm
theorem a9c(l:List Int)(n:Nat):(l.map c4).drop n=(l.drop n).map c4:=List.map_drop.symm
theorem az6(d:List Nat): ∀(l:List Int),acw d (l.map c4)=true
 |[]=>rfl
 |x::r=>by simp[acw,as3,c4,az6 d r]
theorem apq{p:PV->Prop}(h: ∀x,p (c4 x)): ∀(l:List Int),acv p (l.map c4)
 |[]=>trivial
 |x::r=>⟨h x,apq h r⟩
theorem ap1(σ:ASt): ∀(l:List Int),gr σ (l.map c4)=some (l.map c4,[])
 |[]=>rfl
 |x::r=>by simp[gr,pur,c4,ap1 σ r]
theorem a42(l:List Int):acv noH (l.map c4)=True:=eq_true (apq (fun x=> .int .u32 x) l)
theorem a64: ∀{l m:List Int},(l.map c4=m.map c4)=(l=m)
 |l,m=>propext (List.map_inj_right fun a b h=>by simpa [c4] using h)
attribute [go_sem ↓ 1100] a8y a8d ae3 a07 a5g az6 azt a9e a42 ap1
attribute [go_sem ↓] ab8
attribute [go_sem] a9j a9c Nat.mul_one a64
end Go.Proofs.Am
