/- ZOne. -/
import Derived.Test.YthidogjdclkoeaaGreatDoorETwo
set_option linter.unusedSimpArgs false
set_option linter.unusedVariables false
namespace Go.Proofs.Am
open Go
structure WO{α:Type}(lt:α->α->Bool):Prop where
 irr: ∀a,lt a a=false
 tr: ∀a b c,lt a b=true->lt b c=true->lt a c=true
 nt: ∀a b c,lt a b=false->lt b c=false->lt a c=false
def eqw{α:Type}(lt:α->α->Bool)(k x:α):Bool:= !lt k x&& !lt x k
structure Rea{α:Type}(lt:α->α->Bool)(L R:List α):Prop where
 prm:R.Perm L
 flt: ∀k,R.filter (eqw lt k)=L.filter (eqw lt k)
theorem Rea.refl{α:Type}{lt:α->α->Bool}(L:List α):Rea lt L L:=⟨.refl _,fun _=>rfl⟩
theorem Rea.trans{α:Type}{lt:α->α->Bool}{A B C:List α}(h:Rea lt A B)(h':Rea lt B C):Rea lt A C:=⟨h'.prm.trans h.prm,fun k=>(h'.flt k).trans (h.flt k)⟩
theorem Rea.len{α:Type}{lt:α->α->Bool}{A B:List α}(h:Rea lt A B):B.length=A.length:=h.prm.length_eq
section
variable {α:Type} [Inhabited α]
theorem aq9{L:List α}{x:α}(h:x∈L): ∃i,i<L.length/\x=el L i:=by
 obtain⟨i,hi,rfl⟩:=List.mem_iff_getElem.1 h;exact⟨i,hi,by simp[el,bq,hi]⟩
end
def a9p{α:Type}(lt:α->α->Bool):List α->α->List α
 |[],x=>[x]
 |s::r,x=>if lt x s=true then x::s::r else s::a9p lt r x
def a91{α:Type}(lt:α->α->Bool)(S:List α):List α:=S.foldl (a9p lt) []
end Go.Proofs.Am

/- Arrays of bools. -/
namespace Go.Proofs.Am
open Go Go.RowKit
def cb(x:Bool):PV:= .bool x
theorem ay4(l:List Bool){i:Nat}(h:i<l.length):fc (l.map cb) i= .bool (el l i):=by
 simp[fc,el,bq,h,cb]
theorem a8u(K:KT)(l:List Bool)(i:Nat)(d:ASt)(F:List Nat):(i<(l.map cb).length/\kk K (fc (l.map cb) i) d F)=(i<l.length/\K (.bool (el l i)) d F):=by
 simp only[List.length_map,kk];refine propext (and_congr_right fun h=> ?_);rw[ay4 l h];rfl
theorem a3c(K:KT)(n i:Nat)(l:List Bool)(v:Bool):a7z n i K (some 1) (some [.bool v]) (some (.cells (l.map cb)))=(i<l.length/\kk K .undef [(n,.cells ((l.set i v).map cb))] [n]):=by
 rw[ab8];simp only[List.length_map,kk];apply propext
 have e:i<l.length->(l.map cb).take i++[.bool v]++(l.map cb).drop (i+1)=(l.set i v).map cb:=fun h=>by
  rw[List.map_set,List.set_eq_take_append_cons_drop];simp[h,cb]
 constructor
 ·rintro⟨⟨h1,h2,h3⟩,h4⟩;rw[e h3]at h4;exact⟨h3,h4⟩
 ·rintro⟨h3,h4⟩;rw[<-e h3]at h4;exact⟨⟨rfl,rfl,h3⟩,h4⟩
theorem a6m(l:List Bool):(l.map cb).all eh=true:=by simp[cb,eh]
theorem a8a(l:List Bool)(n:Nat):(l.map cb).take n=(l.take n).map cb:=List.map_take.symm
theorem a8m(l:List Bool)(n:Nat):(l.map cb).drop n=(l.drop n).map cb:=List.map_drop.symm
theorem az8(d:List Nat): ∀(l:List Bool),acw d (l.map cb)=true
 |[]=>rfl
 |x::r=>by simp[acw,as3,cb,az8 d r]
theorem ao6{p:PV->Prop}(h: ∀x,p (cb x)): ∀(l:List Bool),acv p (l.map cb)
 |[]=>trivial
 |x::r=>⟨h x,ao6 h r⟩
theorem ase(σ:ASt): ∀(l:List Bool),gr σ (l.map cb)=some (l.map cb,[])
 |[]=>rfl
 |x::r=>by simp[gr,pur,cb,ase σ r]
theorem a63(l:List Bool):acv noH (l.map cb)=True:=eq_true (ao6 (fun x=> .bool x) l)
theorem a7e: ∀{l m:List Bool},(l.map cb=m.map cb)=(l=m)
 |l,m=>propext (List.map_inj_right fun a b h=>by simpa [cb] using h)
theorem aq6: ∀(l m:List Bool),l.length=m.length->w5 (List.replicate l.length .bool) (l.map cb) (m.map cb)=some (decide (l=m))
 |[],[],_=>rfl
 |[],y::m,h=>by simp at h
 |x::l,[],h=>by simp at h
 |x::l,y::m,h=>by
  have ih:=aq6 l m (by simpa using h);simp only[List.length_cons,List.replicate_succ,List.map_cons,w5,cb,eqC];rw[ih];simp only[Option.some.injEq];rw[Bool.eq_iff_iff];simp
attribute [go_sem ↓ 1100] a8u a3c a6m az8 a63 ase
attribute [go_sem] a8a a8m a7e
end Go.Proofs.Am

/- There is one stable sort. -/
namespace Go.Proofs.Am
open Go
section
variable {α:Type} {lt:α->α->Bool}
end
section
variable {α:Type} [Inhabited α]
omit [Inhabited α] in
end
section
variable {α:Type} [Inhabited α]
end
section
variable {α:Type} [Inhabited α]
end
section
variable {α:Type} (lt:α->α->Bool)
def dn(z:Nat)(L:List α):Nat->List α
 |0=>[]
 |t+1=>dn z L t++a91 lt ((L.drop (t*z)).take z)
variable {lt}
end
end Go.Proofs.Am
