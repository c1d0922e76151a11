/- AmW. -/
import Derived.Test.YtloaichcpoboeaaGreatDoorAmV
set_option linter.unusedSimpArgs false
set_option linter.unusedVariables false
namespace Go.Proofs.Am
open Go Go.RowKit
variable {P:Program}
def vIf(X Y:Prop):Bool->Prop
 |true=>X
 |false=>Y
theorem a9c(X Y:Prop):vIf X Y true=X:=(rfl)
theorem avt(X Y:Prop):vIf X Y false=Y:=(rfl)
theorem j9(X Y:Prop)(b:Bool):vIf X Y b=((b=true->X)/\(b=false->Y)):=by cases b<;>simp[vIf]
theorem amp(P:Program)(N:Nat)(Q:t7)(fr:AFr)(σ:ASt)(a b:Code)(t:Bool):bcx P N Q fr σ a b (.bool t)=bv t fun t=>vIf (wv P N a Q fr σ) (wv P N b Q fr σ) t:=by
 rw[aa4];simp only[bv,j9]
theorem blb(P:Program)(all:Array Oper)(op:Op)(d:Option Nat)(r:List Oper)(fr:AFr)(σ:ASt)(K:AFr->ASt->Prop)(t:Nat)(b:Bool):vG P all op d r fr σ K t true (.bool b)=
  bv b fun b=>vIf (evO P op d ((t,.bool true)::fr) σ fun u δ _=>nx P all r ((t,.bool true)::fr) d u σ δ K) (nx P all r ((t,.bool false)::fr) d (.tup []) σ [] K) b:=by
 rw[al1];simp only[bv,j9,Bool.not_true]
theorem bk7(P:Program)(all:Array Oper)(op:Op)(d:Option Nat)(r:List Oper)(fr:AFr)(σ:ASt)(K:AFr->ASt->Prop)(t:Nat)(b:Bool):vG P all op d r fr σ K t false (.bool b)=
  bv b fun b=>vIf (nx P all r ((t,.bool true)::fr) d (.tup []) σ [] K) (evO P op d ((t,.bool false)::fr) σ fun u δ _=>nx P all r ((t,.bool false)::fr) d u σ δ K) b:=by
 rw[al1];simp only[bv,j9,Bool.not_false];exact propext and_comm
theorem bj2(P:Program)(all:Array Oper)(op:Op)(d:Option Nat)(r:List Oper)(fr:AFr)(σ:ASt)(g:Log)(K:AFr->ASt->Log->Prop)(t:Nat)(b:Bool):vGD P all op d r fr σ g K t true (.bool b)=
  bv b fun b=>vIf (evO P op d ((t,.bool true)::fr) σ fun u δ F=>bv F fun F=>nxD P all r ((t,.bool true)::fr) d u σ δ g F K) (nxD P all r ((t,.bool false)::fr) d (.tup []) σ [] g [] K) b:=by
 rw[adj];simp only[bv,j9,Bool.not_true]
theorem bkd(P:Program)(all:Array Oper)(op:Op)(d:Option Nat)(r:List Oper)(fr:AFr)(σ:ASt)(g:Log)(K:AFr->ASt->Log->Prop)(t:Nat)(b:Bool):vGD P all op d r fr σ g K t false (.bool b)=
  bv b fun b=>vIf (nxD P all r ((t,.bool true)::fr) d (.tup []) σ [] g [] K) (evO P op d ((t,.bool false)::fr) σ fun u δ F=>bv F fun F=>nxD P all r ((t,.bool false)::fr) d u σ δ g F K) b:=by
 rw[adj];simp only[bv,j9,Bool.not_false];exact propext and_comm
theorem akj(fr:AFr)(K:KT)(a b:Operand)(t:Bool):bbp fr a b K (.bool t)=bv t fun t=>vIf (kk K (ev fr a) [] []) (kk K (ev fr b) [] []) t:=by
 rw[ab8];simp only[bv,j9]
attribute [go_sem ↓ 1100] akj a9c avt amp blb bk7 bj2 bkd
attribute [go_sem ↓] j9
def c4(x:Int):PV:= .int .u32 x
theorem blf(x:Int):PV.int .u32 x=c4 x:=rfl
theorem aef(l:List Int){i:Nat}(h:i<l.length):ei (l.map c4) i= .int .u32 (el l i):=by
 simp[ei,el,aw,h,c4]
theorem bkl(K:KT)(l:List Int)(i:Nat)(d:ASt)(F:List Nat):(i<(l.map c4).length/\kk K (ei (l.map c4) i) d F)=(i<l.length/\K (.int .u32 (el l i)) d F):=by
 simp only[List.length_map,kk];refine propext (and_congr_right fun h=> ?_);rw[aef l h];rfl
theorem bjo(K:KT)(l:List Int)(i:Nat)(n:Nat)(d:ASt)(F:List Nat):(((0:Int)<=(i:Int)/\(i:Int)<(n:Int)/\(i:Int)<((l.map c4).length:Int))/\kk K (ei (l.map c4) (i:Int).toNat) d F)=((i<n/\i<l.length)/\K (.int .u32 (el l i)) d F):=by
 simp only[List.length_map,kk,Int.toNat_natCast];apply propext;constructor
 ·rintro⟨⟨_,h1,h2⟩,h3⟩;rw[aef l (by omega)]at h3;exact⟨⟨by omega,by omega⟩,h3⟩
 ·rintro⟨⟨h1,h2⟩,h3⟩;refine⟨⟨by omega,by omega,by omega⟩,?_⟩;rw[aef l h2];exact h3
def bi1(n off:Nat)(K:KT):Option Nat->Option (List PV)->Option Box->Prop
 |some m,some us,some (.cells cs)=>(us.length=m/\us.all fu=true/\off+m<=cs.length)/\kk K .undef [(n,.cells (cs.take off++us++cs.drop (off+m)))] [n]
 |_,_,_=>False
theorem ah8(P:Program)(σ:ASt)(K:KT)(t:TypeId)(n off:Nat)(v:PV):me P t σ (.ptr n off) v K=bv (db P t) fun m=>bv (dx v) fun us=>bv (ah σ n) fun B=>bi1 n off K m us B:=by
 rw[ze];rfl
theorem afk(K:KT)(n off m:Nat)(us cs:List PV):bi1 n off K (some m) (some us) (some (.cells cs))=((us.length=m/\us.all fu=true/\off+m<=cs.length)/\kk K .undef [(n,.cells (cs.take off++us++cs.drop (off+m)))] [n]):=rfl
theorem bb4(K:KT)(n i:Nat)(l:List Int)(v:Int):bi1 n i K (some 1) (some [.int .u32 v]) (some (.cells (l.map c4)))=(i<l.length/\kk K .undef [(n,.cells ((l.set i v).map c4))] [n]):=by
 rw[afk];simp only[List.length_map,kk];apply propext
 have e:i<l.length->(l.map c4).take i++[.int .u32 v]++(l.map c4).drop (i+1)=(l.set i v).map c4:=fun h=>by
  rw[List.map_set,List.set_eq_take_append_cons_drop];simp[h,c4]
 constructor
 ·rintro⟨⟨h1,h2,h3⟩,h4⟩;rw[e h3]at h4;exact⟨h3,h4⟩
 ·rintro⟨h3,h4⟩;rw[<-e h3]at h4;exact⟨⟨rfl,rfl,h3⟩,h4⟩
def c8(x:Int):PV:= .int .i64 x
theorem aqq(l:List Int){i:Nat}(h:i<l.length):ei (l.map c8) i= .int .i64 (el l i):=by
 simp[ei,el,aw,h,c8]
theorem bjk(K:KT)(l:List Int)(i:Nat)(n:Nat)(d:ASt)(F:List Nat):(((0:Int)<=(i:Int)/\(i:Int)<(n:Int)/\(i:Int)<((l.map c8).length:Int))/\kk K (ei (l.map c8) (i:Int).toNat) d F)=((i<n/\i<l.length)/\K (.int .i64 (el l i)) d F):=by
 simp only[List.length_map,kk,Int.toNat_natCast];apply propext;constructor
 ·rintro⟨⟨_,h1,h2⟩,h3⟩;rw[aqq l (by omega)]at h3;exact⟨⟨by omega,by omega⟩,h3⟩
 ·rintro⟨⟨h1,h2⟩,h3⟩;refine⟨⟨by omega,by omega,by omega⟩,?_⟩;rw[aqq l h2];exact h3
theorem bam(d:List Nat): ∀(l:List Int),aj4 d (l.map c8)=true
 |[]=>rfl
 |x::r=>by simp[aj4,a9s,c8,bam d r]
theorem bf2(l:List Int):(l.map c4).all fu=true:=by simp[c4,fu]
theorem bi8(l:List Int)(n:Nat):(l.map c4).take n=(l.take n).map c4:=List.map_take.symm
theorem bji(l:List Int)(n:Nat):(l.map c4).drop n=(l.drop n).map c4:=List.map_drop.symm
theorem a9r(d:List Nat): ∀(l:List Int),aj4 d (l.map c4)=true
 |[]=>rfl
 |x::r=>by simp[aj4,a9s,c4,a9r d r]
theorem a0e{p:PV->Prop}(h: ∀x,p (c4 x)): ∀(l:List Int),aaz p (l.map c4)
 |[]=>trivial
 |x::r=>⟨h x,a0e h r⟩
theorem ayb(σ:ASt): ∀(l:List Int),gy σ (l.map c4)=some (l.map c4,[])
 |[]=>rfl
 |x::r=>by simp[gy,pur,c4,ayb σ r]
theorem bhs(l:List Int):aaz noH (l.map c4)=True:=eq_true (a0e (fun x=> .int .u32 x) l)
theorem bfw: ∀{l m:List Int},(l.map c4=m.map c4)=(l=m)
 |l,m=>propext (List.map_inj_right fun a b h=>by simpa [c4] using h)
attribute [go_sem ↓ 1100] bkl bjo ah8 bb4 bf2 a9r bam bjk bhs ayb
attribute [go_sem ↓] afk
attribute [go_sem] bi8 bji Nat.mul_one bfw
end Go.Proofs.Am
