/- ZOne. -/
import Derived.Test.YtloaichcpoboeaaGreatDoorETwo
set_option linter.unusedSimpArgs false
set_option linter.unusedVariables false
namespace Go.Proofs.Am
open Go
structure WO{α:Type}(lt:α->α->Bool):Prop where
 irr: ∀a,lt a a=false
 tr: ∀a b c,lt a b=true->lt b c=true->lt a c=true
 nt: ∀a b c,lt a b=false->lt b c=false->lt a c=false
def eqw{α:Type}(lt:α->α->Bool)(k x:α):Bool:= !lt k x&& !lt x k
structure Rea{α:Type}(lt:α->α->Bool)(L R:List α):Prop where
 prm:R.Perm L
 flt: ∀k,R.filter (eqw lt k)=L.filter (eqw lt k)
theorem Rea.refl{α:Type}{lt:α->α->Bool}(L:List α):Rea lt L L:=⟨.refl _,fun _=>rfl⟩
theorem Rea.trans{α:Type}{lt:α->α->Bool}{A B C:List α}(h:Rea lt A B)(h':Rea lt B C):Rea lt A C:=⟨h'.prm.trans h.prm,fun k=>(h'.flt k).trans (h.flt k)⟩
theorem Rea.len{α:Type}{lt:α->α->Bool}{A B:List α}(h:Rea lt A B):B.length=A.length:=h.prm.length_eq
theorem Rea.mem{α:Type}{lt:α->α->Bool}{A B:List α}(h:Rea lt A B){x:α}:x∈B↔x∈A:=h.prm.mem_iff
section
variable {α:Type} [Inhabited α]
theorem ahe{L:List α}{x:α}(h:x∈L): ∃i,i<L.length/\x=el L i:=by
 obtain⟨i,hi,rfl⟩:=List.mem_iff_getElem.1 h;exact⟨i,hi,by simp[el,aw,hi]⟩
end
def bk6{α:Type}(lt:α->α->Bool):List α->α->List α
 |[],x=>[x]
 |s::r,x=>if lt x s=true then x::s::r else s::bk6 lt r x
def blh{α:Type}(lt:α->α->Bool)(S:List α):List α:=S.foldl (bk6 lt) []
end Go.Proofs.Am

/- Arrays of bools. -/
namespace Go.Proofs.Am
open Go Go.RowKit
def cb(x:Bool):PV:= .bool x
theorem a7e(l:List Bool){i:Nat}(h:i<l.length):ei (l.map cb) i= .bool (el l i):=by
 simp[ei,el,aw,h,cb]
theorem bku(K:KT)(l:List Bool)(i:Nat)(d:ASt)(F:List Nat):(i<(l.map cb).length/\kk K (ei (l.map cb) i) d F)=(i<l.length/\K (.bool (el l i)) d F):=by
 simp only[List.length_map,kk];refine propext (and_congr_right fun h=> ?_);rw[a7e l h];rfl
theorem bck(K:KT)(n i:Nat)(l:List Bool)(v:Bool):bi1 n i K (some 1) (some [.bool v]) (some (.cells (l.map cb)))=(i<l.length/\kk K .undef [(n,.cells ((l.set i v).map cb))] [n]):=by
 rw[afk];simp only[List.length_map,kk];apply propext
 have e:i<l.length->(l.map cb).take i++[.bool v]++(l.map cb).drop (i+1)=(l.set i v).map cb:=fun h=>by
  rw[List.map_set,List.set_eq_take_append_cons_drop];simp[h,cb]
 constructor
 ·rintro⟨⟨h1,h2,h3⟩,h4⟩;rw[e h3]at h4;exact⟨h3,h4⟩
 ·rintro⟨h3,h4⟩;rw[<-e h3]at h4;exact⟨⟨rfl,rfl,h3⟩,h4⟩
theorem bid(l:List Bool):(l.map cb).all fu=true:=by simp[cb,fu]
theorem bkm(l:List Bool)(n:Nat):(l.map cb).take n=(l.take n).map cb:=List.map_take.symm
theorem bj1(l:List Bool)(n:Nat):(l.map cb).drop n=(l.drop n).map cb:=List.map_drop.symm
theorem bal(d:List Nat): ∀(l:List Bool),aj4 d (l.map cb)=true
 |[]=>rfl
 |x::r=>by simp[aj4,a9s,cb,bal d r]
theorem awh{p:PV->Prop}(h: ∀x,p (cb x)): ∀(l:List Bool),aaz p (l.map cb)
 |[]=>trivial
 |x::r=>⟨h x,awh h r⟩
theorem ay9(σ:ASt): ∀(l:List Bool),gy σ (l.map cb)=some (l.map cb,[])
 |[]=>rfl
 |x::r=>by simp[gy,pur,cb,ay9 σ r]
theorem bhw(l:List Bool):aaz noH (l.map cb)=True:=eq_true (awh (fun x=> .bool x) l)
theorem bg8: ∀{l m:List Bool},(l.map cb=m.map cb)=(l=m)
 |l,m=>propext (List.map_inj_right fun a b h=>by simpa [cb] using h)
theorem a00: ∀(l m:List Bool),l.length=m.length->ya (List.replicate l.length .bool) (l.map cb) (m.map cb)=some (decide (l=m))
 |[],[],_=>rfl
 |[],y::m,h=>by simp at h
 |x::l,[],h=>by simp at h
 |x::l,y::m,h=>by
  have ih:=a00 l m (by simpa using h);simp only[List.length_cons,List.replicate_succ,List.map_cons,ya,cb,eqC];rw[ih];simp only[Option.some.injEq];rw[Bool.eq_iff_iff];simp
attribute [go_sem ↓ 1100] bku bck bid bal bhw ay9
attribute [go_sem] bkm bj1 bg8
end Go.Proofs.Am

/- There is one stable sort. -/
namespace Go.Proofs.Am
open Go
section
variable {α:Type} {lt:α->α->Bool}
end
section
variable {α:Type} [Inhabited α]
omit [Inhabited α] in
end
section
variable {α:Type} [Inhabited α]
end
section
variable {α:Type} [Inhabited α]
end
section
variable {α:Type} (lt:α->α->Bool)
def dn(z:Nat)(L:List α):Nat->List α
 |0=>[]
 |t+1=>dn z L t++blh lt ((L.drop (t*z)).take z)
variable {lt}
end
end Go.Proofs.Am
