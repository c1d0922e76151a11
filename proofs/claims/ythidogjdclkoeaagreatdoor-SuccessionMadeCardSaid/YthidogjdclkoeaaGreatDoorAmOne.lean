/- AmOne. -/
import Derived.Below
import Derived.Orders
import Derived.Laws.OwnMore
import Derived.Laws.MakeOwn
import Derived.Deep.Draws
import Derived.Lib.PrintData
import Derived.Lib.DecodeN
import Derived.Lib.LaidTab
import Derived.Lib.ItoaNum
import Derived.Deep.MidRow
import Derived.Laws.StructEq
import Derived.Laws.Strings
import Derived.Laws.Slices
import Derived.Laws.BytesArg
import Derived.Laws.IdiomStrings
import Derived.ChangeKeysEq
import Derived.Lib.AppendStr
set_option linter.unusedSimpArgs false
set_option linter.unusedVariables false
namespace Go.Proofs.Am
open Go Go.RowKit
theorem bq{α:Type _}{l:List α}{i:Nat}{a:α}:l.getD i a=l[i]?.getD a:=List.getD_eq_getElem?_getD
theorem bf{α:Type _}{l:List α}{i:Nat}(h:i<l.length):l[i]? =some l[i]:=List.getElem?_eq_getElem h
theorem ca{α:Type _}{l:List α}{i:Nat}{a:α}:l[i]? =some a↔∃h:i<l.length,l[i]=a:=List.getElem?_eq_some_iff
inductive PV where
 |undef
 |bool (b:Bool)
 |int (k:IntKind) (n:Int)
 |str (l:List UInt8)
 |nils
 |vs (xs:List (List PV))
 |os (n k:Nat)
 |agg (cs:List PV)
 |tup (us:List PV)
 |ptr (n off:Nat)
 |nilp
 |el (cs:List PV)
 |oel (n k i off:Nat)
 |osl (n k i:Nat)
 |vx (xs:List (List PV))
 |fn (f:FuncId) (caps:List PV)
 |nilf
 |ifc (t:TypeId) (u:PV)
 |nili
 |nilm
 |sn (b:Bool)
 |mh (n:Nat)
 |oq (n k:Nat)
 |oqe (n k i sz off:Nat)
 |ago (cs:List PV)
 |oss (n k i m:Nat)
 deriving Inhabited
def eh:PV->Bool
 | .agg _=>false
 | .undef=>false
 | .tup _=>false
 | .ago _=>false
 |_=>true
inductive RP (pc:Addr->Value->Prop):Value->PV->Prop
 |bool (b:Bool):RP pc (.bool b) (.bool b)
 |int (k:IntKind) (n:Int):RP pc (.int k n) (.int k n)
 |str (l:List UInt8):RP pc (.string ⟨l.toArray⟩) (.str l)
 |nils:RP pc (.slice none 0 0) .nils
 |nilp:RP pc (.pointer none) .nilp
 |nilf:RP pc .nilFunc .nilf
 |nili:RP pc .nilIface .nili
 |nilm:RP pc (.map none) .nilm
 |sn {a:Option Addr} (b:Bool) (c:Nat) (h:a.isNone=b):RP pc (.slice a 0 c) (.sn b)
 |fn (f:FuncId):RP pc (.func (.func f) #[] #[]) (.fn f [])
 |vs {a:Option Addr} {n c sz:Nat} {xs:List (List PV)} (U:Nat->Nat->Value) (hn:xs.length=n) (hc:n<=c)
   (hsz: ∀x∈xs,x.length=sz) (h1: ∀x∈xs,x.all eh=true)
   (ha:0<n->∃ad,a=some ad/\∀i x j u,xs[i]? =some x->x[j]? =some u->pc (ad.add (i*sz+j)) (U i j))
   (hr: ∀i x j u,xs[i]? =some x->x[j]? =some u->RP pc (U i j) u):RP pc (.slice a n c) (.vs xs)
 |agg {vs:Array Value} {cs:List PV} (hl:vs.size=cs.length) (h: ∀i u,cs[i]? =some u->RP pc (vs.getD i undef) u):RP pc (.agg vs) (.agg cs)
 |tup {vs:Array Value} {cs:List PV} (hl:vs.size=cs.length) (h: ∀i u,cs[i]? =some u->RP pc (vs.getD i undef) u):RP pc (.tuple vs) (.tup cs)
 |ifc (t:TypeId) {v:Value} {u:PV} (h:RP pc v u):RP pc (.iface t v) (.ifc t u)
theorem RP.mono{pc pc':Addr->Value->Prop}(hp: ∀a v,pc a v->pc' a v){v:Value}{u:PV}(h:RP pc v u):RP pc' v u:=by
 induction h with
 |bool b=>exact .bool b
 |int k n=>exact .int k n
 |str l=>exact .str l
 |nils=>exact .nils
 |nilp=>exact .nilp
 |nilf=>exact .nilf
 |nili=>exact .nili
 |nilm=>exact .nilm
 |sn b c h=>exact .sn b c h
 |fn f=>exact .fn f
 |vs U hn hc hsz h1 ha hr ih=>
  refine .vs U hn hc hsz h1 (fun h=> ?_) (fun i x j u hx hu=>ih i x j u hx hu);obtain⟨ad,h1,h2⟩:=ha h
  exact⟨ad,h1,fun i x j u hx hu=>hp _ _ (h2 i x j u hx hu)⟩
 |agg hl _ ih=>exact .agg hl fun i u hu=>ih i u hu
 |tup hl _ ih=>exact .tup hl fun i u hu=>ih i u hu
 |ifc t _ ih=>exact .ifc t ih
structure Env where
 pc:Addr->Value->Prop
 ptr:Nat->Nat->Value->Prop
 os:Nat->Nat->Value->Prop
 oel:Nat->Nat->Nat->Nat->Value->Prop
 mh:Nat->Value->Prop
 oq:Nat->Nat->Value->Prop
structure Env.le(E F:Env):Prop where
 pc: ∀a v,E.pc a v->F.pc a v
 ptr: ∀n o v,E.ptr n o v->F.ptr n o v
 os: ∀n k v,E.os n k v->F.os n k v
 oel: ∀n k i o v,E.oel n k i o v->F.oel n k i o v
 mh: ∀n v,E.mh n v->F.mh n v
 oq: ∀n k v,E.oq n k v->F.oq n k v
theorem Env.le.refl(E:Env):Env.le E E:=⟨fun _ _ h=>h,fun _ _ _ h=>h,fun _ _ _ h=>h,fun _ _ _ _ _ h=>h,fun _ _ h=>h,fun _ _ _ h=>h⟩
theorem Env.le.trans{E F G:Env}(h:Env.le E F)(k:Env.le F G):Env.le E G:=
 ⟨fun a v x=>k.pc a v (h.pc a v x),fun n o v x=>k.ptr n o v (h.ptr n o v x),fun n o v x=>k.os n o v (h.os n o v x),fun n o i p v x=>k.oel n o i p v (h.oel n o i p v x),fun n v x=>k.mh n v (h.mh n v x),fun n o v x=>k.oq n o v (h.oq n o v x)⟩
inductive RV (E:Env):Value->PV->Prop
 |undef (v:Value):RV E v .undef
 |pure {v:Value} {u:PV} (h:RP E.pc v u):RV E v u
 |ptr {n off:Nat} {v:Value} (h:E.ptr n off v):RV E v (.ptr n off)
 |os {n k:Nat} {v:Value} (h:E.os n k v):RV E v (.os n k)
 |oel {n k i off:Nat} {v:Value} (h:E.oel n k i off v):RV E v (.oel n k i off)
 |osl {n k i c:Nat} {q:Addr} {v:Value} (hv:v= .slice (some q) (k - i) c) (h:E.oel n k i 0 (.pointer (some q))):RV E v (.osl n k i)
 |vx {xs:List (List PV)} {a:Option Addr} {n:Nat} {v:Value} (hv:v= .slice a n n) (h:RP E.pc v (.vs xs)):RV E v (.vx xs)
 |mh {n:Nat} {v:Value} (h:E.mh n v):RV E v (.mh n)
 |oq {n k:Nat} {v:Value} (h:E.oq n k v):RV E v (.oq n k)
 |oqe {n k i sz off:Nat} {v0 v:Value} (h:E.oq n k v0) (h1: ∃q,v= .pointer (some q)) (hq: ∀b o m c,v0= .slice (some ⟨b,o,none⟩) m c->i<m->v= .pointer (some ⟨b,o+(i*sz+off),none⟩)):RV E v (.oqe n k i sz off)
 |el {q:Addr} {cs:List PV} (U:Nat->Value) (ha: ∀j u,cs[j]? =some u->E.pc (q.add j) (U j)) (hr: ∀j u,cs[j]? =some u->RP E.pc (U j) u):RV E (.pointer (some q)) (.el cs)
 |agg {vs:Array Value} {cs:List PV} (hl:vs.size=cs.length) (h: ∀i u,cs[i]? =some u->RV E (vs.getD i Go.undef) u):RV E (.agg vs) (.agg cs)
 |oss {n k i m c:Nat} {q:Addr} {v:Value} (hv:v= .slice (some q) m c) (h:E.oel n k i 0 (.pointer (some q))):RV E v (.oss n k i m)
 |ago {vs:Array Value} {cs:List PV} (hl:vs.size=cs.length) (h: ∀i u,cs[i]? =some u->RV E (vs.getD i Go.undef) u):RV E (.agg vs) (.ago cs)
 |tup {vs:Array Value} {cs:List PV} (hl:vs.size=cs.length) (h: ∀i u,cs[i]? =some u->RV E (vs.getD i Go.undef) u):RV E (.tuple vs) (.tup cs)
 |fn (f:FuncId) {vs:Array Value} {cs:List PV} (hl:vs.size=cs.length) (h: ∀i u,cs[i]? =some u->RV E (vs.getD i Go.undef) u):RV E (.func (.func f) #[] vs) (.fn f cs)
theorem RV.mono{E F:Env}(hE:Env.le E F){v:Value}{u:PV}(h:RV E v u):RV F v u:=by
 induction h with
 |undef v=>exact .undef v
 |pure h=>exact .pure (h.mono hE.pc)
 |ptr h=>exact .ptr (hE.ptr _ _ _ h)
 |os h=>exact .os (hE.os _ _ _ h)
 |oel h=>exact .oel (hE.oel _ _ _ _ _ h)
 |osl hv h=>exact .osl hv (hE.oel _ _ _ _ _ h)
 |vx hv h=>exact .vx hv (h.mono hE.pc)
 |mh h=>exact .mh (hE.mh _ _ h)
 |oq h=>exact .oq (hE.oq _ _ _ h)
 |oqe h h1 hq=>exact .oqe (hE.oq _ _ _ h) h1 hq
 |oss hv h=>exact .oss hv (hE.oel _ _ _ _ _ h)
 |ago hl _ ih=>exact .ago hl fun i u hu=>ih i u hu
 |el U ha hr=>exact .el U (fun j u hu=>hE.pc _ _ (ha j u hu)) fun j u hu=>(hr j u hu).mono hE.pc
 |agg hl _ ih=>exact .agg hl fun i u hu=>ih i u hu
 |tup hl _ ih=>exact .tup hl fun i u hu=>ih i u hu
 |fn f hl _ ih=>exact .fn f hl fun i u hu=>ih i u hu
inductive Box where
 |cells (cs:List PV)
 |arr (e sz:Nat) (sh:Bool) (xs:List (List PV))
 |arh (e sz:Nat) (xs:List (List PV))
 |mp (es:List (PV×PV))
 |it (m k:Nat) (done:List Nat)
 |si (l:List UInt8) (pos:Nat)
 |arq (e sz k:Nat) (xs:List (List PV))
 |dead (sz l:Nat)
 deriving Inhabited
def Box.dim:Box->Option (Nat×Nat)
 | .arr _ sz _ xs=>some (sz,xs.length)
 | .arh _ sz xs=>some (sz,xs.length)
 | .dead sz l=>some (sz,l)
 |_=>none
def Box.qdim:Box->Option (Nat×Nat)
 | .arq _ sz k _=>some (sz,k)
 |_=>none
def Box.isM:Box->Bool
 | .mp _=>true
 | .it _ _ _=>true
 | .si _ _=>true
 |_=>false
abbrev St:=Nat->Option Box
def Box.perm:Box->Nat->Prop
 | .arr _ sz true xs,off=>off<xs.length*sz
 |_,_=>False
def blk:Value->Option Nat
 | .pointer (some a)=>some a.block
 | .slice (some a) _ _=>some a.block
 | .map (some r)=>some r
 |_=>none
structure Laid(P:Program)(w:World):Prop where
 print: ∀g20 g21 g22 g23,P.globalNamed "strconv.isPrint16" =some g20→P.globalNamed "strconv.isNotPrint16" =some g21→P.globalNamed "strconv.isPrint32" =some g22→P.globalNamed "strconv.isNotPrint32" =some g23→Lib.PrintTabsAt g20 g21 g22 g23 Lib.goPrintTabs w
 utf8: ∀g3 g4,P.globalNamed "unicode/utf8.first" =some g3→P.globalNamed "unicode/utf8.acceptRanges" =some g4→(∀c,c<256→w.cell? ⟨g3,c,none⟩=some (.int .u8 (Lib.firstT c)))∧(∀i,i<16→w.cell? ⟨g4,2*i,none⟩=some (.int .u8 (Lib.accLo i))∧w.cell? ⟨g4,2*i+1,none⟩=some (.int .u8 (Lib.accHi i)))
 pow: ∀g,P.globalNamed "internal/strconv.uint64pow10" =some g→Lib.TabIs P w "internal/strconv.uint64pow10" .u64 Lib.pow10Tab
def Tabs(P:Program)(gc:Nat->Obj->Prop):Prop:= ∀w:World,(∀b o,gc b o->w.heap[b]? =some o)->Laid P w
structure Ctx(P:Program) where
 w0:World
 V:Addr->Prop
 E:Nat->Prop
 hx:Nat->Option (Value×Box)
 gc:Nat->Obj->Prop
variable {P:Program}
def pcOf(x:Ctx P)(s:St)(hv:Nat->Value)(w:World)(a:Addr)(v:Value):Prop:=
 w.cell? a=some v/\(x.V a\/x.w0.heap.size<=a.block\/x.E a.block)/\∀n B,s n=some B->blk (hv n)=some a.block->B.perm a.off
def env(x:Ctx P)(s:St)(hv:Nat->Value)(w:World):Env where
 pc:=pcOf x s hv w
 ptr n off v:=(∃cs,s n=some (.cells cs))/\∃b,hv n= .pointer (some ⟨b,0,none⟩)/\v= .pointer (some ⟨b,off,none⟩)
 os n k v:=(∃a c,v= .slice a k c)/\∃B sz l,s n=some B/\B.dim=some (sz,l)/\k<=l/\(k=l->v=hv n)
 oel n k i off v:=(∃q,v= .pointer (some q))/\∃B sz l,s n=some B/\B.dim=some (sz,l)/\k<=l/\(k=l->i<k->∃b c,hv n= .slice (some ⟨b,0,none⟩) k c/\v= .pointer (some ⟨b,i*sz+off,none⟩))
 mh n v:=((∃b,blk v=some b)/\∃B,s n=some B/\B.isM=true)/\v=hv n
 oq n k v:=(∃a m c,v= .slice a m c)/\∃B sz l,s n=some B/\B.qdim=some (sz,l)/\k<=l/\(k=l->v=hv n)
def MapRep(E:Env)(w:World)(h:Value)(es:List (PV×PV)):Prop:=
 ∃b arr,h= .map (some b)/\w.heap[b]? =some (.map arr es.length)/\arr.size=es.length/\
  ∀(i:Nat) (p:PV×PV),es[i]? =some p->∃en:MapEntry,arr[i]? =some en/\en.born=i/\RP E.pc en.key p.1/\RV E en.val p.2
def ans(P:Program)(e:Nat):Prop:=P.underlying e=some (.int .u8)
def OwnM(P:Program)(w:World)(e sz:Nat)(v:Value)(n:Nat)(xs:List Value):Prop:=
 xs.length=n*sz/\((v= .slice none 0 0/\n=0)\/
  ∃g cap cur fz,v= .slice (some ⟨g,0,none⟩) n cap/\(fz=(0,0)\/ans P e/\fz=(cur.size,cur.size+1))/\w.heap[g]? =some (.cells cur e fz)/\n<=cap/\cap<=maxLen/\cur.size=cap*sz/\cur.toList.take (n*sz)=xs)
theorem OwnM.nil(P:Program)(w:World)(e sz:Nat):OwnM P w e sz (.slice none 0 0) 0 []:=⟨by simp,.inl ⟨rfl,rfl⟩⟩
theorem OwnM.of{P:Program}{w:World}{e sz n:Nat}{v:Value}{xs:List Value}(h:w.ownsRow 0 e sz v n xs):OwnM P w e sz v n xs:=by
 refine⟨h.1,?_⟩;rcases h.2 with hn|⟨g,cap,cur,rfl,_,h2,h3⟩
 ·exact .inl hn
 ·exact .inr ⟨g,cap,cur,(0,0),rfl,.inl rfl,h2,h3⟩
theorem OwnM.own{P:Program}{w:World}{e sz n:Nat}{v:Value}{xs:List Value}(hb: ¬ans P e)(h:OwnM P w e sz v n xs):w.ownsRow 0 e sz v n xs:=by
 refine⟨h.1,?_⟩;rcases h.2 with hn|⟨g,cap,cur,fz,rfl,hf,h2,h3⟩
 ·exact .inl hn
 ·rcases hf with rfl|hf
  ·exact .inr ⟨g,cap,cur,rfl,Nat.zero_le _,h2,h3⟩
  ·exact absurd hf.1 hb
theorem rh{P:Program}{e n:Nat}{fz:Nat×Nat}(h:fz=(0,0)\/ans P e/\fz=(n,n+1)):fz.2=0\/n<=fz.1:=by
 rcases h with rfl|⟨_,rfl⟩
 ·exact .inl rfl
 ·exact .inr (Nat.le_refl _)
theorem OwnM.cellAt{P:Program}{w:World}{e sz n cap g:Nat}{xs:List Value}(h:OwnM P w e sz (.slice (some ⟨g,0,none⟩) n cap) n xs)(j:Nat)(hj:j<n*sz):w.cell? ⟨g,j,none⟩=xs[j]?:=by
 rcases h.2 with ⟨h',_⟩|⟨g',cap',cur,fz,h',_,hg,_,_,_,htake⟩
 ·simp at h'
 ·simp only[Value.slice.injEq,Option.some.injEq,Addr.mk.injEq,and_true,true_and]at h';obtain⟨rfl,rfl⟩:=h';rw[cell_of_row w g j cur e fz hg,<-htake,List.getElem?_take,if_pos hj];simp
theorem OwnM.cells{P:Program}{w:World}{e sz n:Nat}{v:Value}{xs:List Value}(h:OwnM P w e sz v n xs){g:Nat}(hg:v.ownBlock=some g): ∀j u,xs[j]? =some u->w.cell? ((⟨g,0,none⟩:Addr).add j)=some u:=by
 intro j u hu;have hj:j<n*sz:=by rw[<-h.1];exact(ca.1 hu).1
 have hadd:(⟨g,0,none⟩:Addr).add j=⟨g,j,none⟩:=by unfold Addr.add;split<;>simp_all
 rw[hadd];rcases h.2 with ⟨rfl,_⟩|⟨g',cap,cur,fz,rfl,_⟩
 ·simp[Value.ownBlock]at hg
 ·simp[Value.ownBlock]at hg;subst hg;exact(h.cellAt j hj).trans hu
def OwnQ(w:World)(e sz:Nat)(v:Value)(n:Nat)(xs:List Value):Prop:=
 xs.length=n*sz/\((v= .slice none 0 0/\n=0)\/
  ∃g o cap cur fz,v= .slice (some ⟨g,o,none⟩) n cap/\(fz.2=0\/cur.size<=fz.1)/\w.heap[g]? =some (.cells cur e fz)/\n<=cap/\o+cap*sz<=cur.size/\(cur.toList.drop o).take (n*sz)=xs)
def BoxRep(P:Program)(E:Env)(w:World)(h:Value):Box->Prop
 | .cells cs=> ∃b t arr,h= .pointer (some ⟨b,0,none⟩)/\w.heap[b]? =some (.cells arr t (0,0))/\arr.size=cs.length/\∀i u,cs[i]? =some u->RV E (arr.getD i undef) u
 | .arr e sz _ xs=>0<sz/\∃ys:List Value,OwnM P w e sz h xs.length ys/\(∀x∈xs,x.length=sz)/\(∀x∈xs,x.all eh=true)/\∀i x j u,xs[i]? =some x->x[j]? =some u->RP E.pc (ys.getD (i*sz+j) undef) u
 | .arh e sz xs=>0<sz/\∃ys:List Value,OwnM P w e sz h xs.length ys/\(∀x∈xs,x.length=sz)/\(∀x∈xs,x.all eh=true)/\∀i x j u,xs[i]? =some x->x[j]? =some u->RV E (ys.getD (i*sz+j) undef) u
 | .mp es=>MapRep E w h es
 | .it m k done=> ∃r b,h= .pointer (some ⟨r,0,none⟩)/\w.heap[r]? =some (.mapIter (some b) k done.toArray k)/\E.mh m (.map (some b))
 | .si l pos=> ∃r,h= .pointer (some ⟨r,0,none⟩)/\w.heap[r]? =some (.stringIter ⟨l.toArray⟩ pos)
 | .arq e sz _ xs=>0<sz/\∃ys:List Value,OwnQ w e sz h xs.length ys/\(∀x∈xs,x.length=sz)/\(∀x∈xs,x.all eh=true)/\∀i x j u,xs[i]? =some x->x[j]? =some u->RP E.pc (ys.getD (i*sz+j) undef) u
 | .dead _ l=>(∀b,blk h=some b->b<w.heap.size)/\(0<l->∃g c,h= .slice (some ⟨g,0,none⟩) l c/\l<=c)
def Box.keep(A:Box)(h:Value)(B:Box)(h':Value):Prop:=
 match A with
 | .cells _=>(∃ds,B= .cells ds)/\h'=h
 | .arr _ sz _ xs=> ∃l,B.dim=some (sz,l)/\xs.length<=l/\(xs.length=l->h'=h)
 | .arh _ sz xs=> ∃l,B.dim=some (sz,l)/\xs.length<=l/\(xs.length=l->h'=h)
 | .mp _=>B.isM=true/\h'=h
 | .it _ _ _=>B.isM=true/\h'=h
 | .si _ _=>B.isM=true/\h'=h
 | .arq _ sz k _=> ∃l,B.qdim=some (sz,l)/\k<=l/\(k=l->h'=h)
 | .dead sz l0=> ∃l,B.dim=some (sz,l)/\l0<=l/\(l0=l->h'=h)
theorem Box.keep_dim{A B:Box}{h h':Value}{sz l:Nat}(hA:A.dim=some (sz,l)):Box.keep A h B h'↔∃l',B.dim=some (sz,l')/\l<=l'/\(l=l'->h'=h):=by
 cases A<;>simp[Box.dim]at hA<;>obtain⟨rfl,rfl⟩:=hA<;>rfl
theorem Box.keep_M{A B:Box}{h h':Value}(hA:A.isM=true):Box.keep A h B h'↔B.isM=true/\h'=h:=by
 cases A<;>simp[Box.isM]at hA<;>rfl
theorem Box.keep_q{A B:Box}{h h':Value}{sz l:Nat}(hA:A.qdim=some (sz,l)):Box.keep A h B h'↔∃l',B.qdim=some (sz,l')/\l<=l'/\(l=l'->h'=h):=by
 cases A<;>simp[Box.qdim]at hA<;>obtain⟨rfl,rfl⟩:=hA<;>rfl
theorem Box.keep_refl(B:Box)(h:Value):Box.keep B h B h:=by cases B<;>simp[Box.keep,Box.dim,Box.isM,Box.qdim]
theorem Box.keep_trans{A B C:Box}{h h' h'':Value}(k1:Box.keep A h B h')(k2:Box.keep B h' C h''):Box.keep A h C h'':=by
 cases A with
 |cells cs=>
  obtain⟨⟨ds,rfl⟩,rfl⟩:=k1
  exact k2
 |arr e sz sh xs=>
  obtain⟨l,a1,a2,a3⟩:=k1;obtain⟨l',b1,b2,b3⟩:=(Box.keep_dim a1).1 k2
  exact⟨l',b1,Nat.le_trans a2 b2,fun hl=>(b3 (by omega)).trans (a3 (by omega))⟩
 |arh e sz xs=>
  obtain⟨l,a1,a2,a3⟩:=k1;obtain⟨l',b1,b2,b3⟩:=(Box.keep_dim a1).1 k2
  exact⟨l',b1,Nat.le_trans a2 b2,fun hl=>(b3 (by omega)).trans (a3 (by omega))⟩
 |mp es=>
  obtain⟨a1,rfl⟩:=k1
  exact(Box.keep_M a1).1 k2
 |it m k d=>
  obtain⟨a1,rfl⟩:=k1
  exact(Box.keep_M a1).1 k2
 |si l p=>
  obtain⟨a1,rfl⟩:=k1
  exact(Box.keep_M a1).1 k2
 |arq e sz k0 xs=>
  obtain⟨l,a1,a2,a3⟩:=k1;obtain⟨l',b1,b2,b3⟩:=(Box.keep_q a1).1 k2
  exact⟨l',b1,Nat.le_trans a2 b2,fun hl=>(b3 (by omega)).trans (a3 (by omega))⟩
 |dead sz l0=>
  obtain⟨l,a1,a2,a3⟩:=k1;obtain⟨l',b1,b2,b3⟩:=(Box.keep_dim a1).1 k2;exact⟨l',b1,Nat.le_trans a2 b2,fun hl=>(b3 (by omega)).trans (a3 (by omega))⟩
structure SimW(x:Ctx P)(s:St)(hv:Nat->Value)(w:World):Prop where
 os:w.os=x.w0.os
 tape:w.tape=x.w0.tape
 output:w.output=x.w0.output
 size:x.w0.heap.size<=w.heap.size
 old: ∀b,b<x.w0.heap.size->¬x.E b->w.heap[b]? =x.w0.heap[b]?
 box: ∀n B,s n=some B->BoxRep P (env x s hv w) w (hv n) B
 loc: ∀n B b,s n=some B->blk (hv n)=some b->x.w0.heap.size<=b\/x.E b
 inj: ∀n m B C b,s n=some B->s m=some C->blk (hv n)=some b->blk (hv m)=some b->n=m
 ext: ∀n p B,x.hx n=some p->s n=some B->Box.keep p.2 p.1 B (hv n)
 vis: ∀a,x.V a->¬x.E a.block/\a.block<x.w0.heap.size
 extin: ∀n,x.hx n≠none->s n≠none/\1000000<=n
 glb: ∀b o,x.gc b o->x.w0.heap[b]? =some o/\¬x.E b
 tabs:Tabs P x.gc
theorem MapRep.mono{E F:Env}(hE:Env.le E F){w:World}{h:Value}{es:List (PV×PV)}(hb:MapRep E w h es):MapRep F w h es:=by
 obtain⟨b,arr,h1,h2,h3,h4⟩:=hb;refine⟨b,arr,h1,h2,h3,fun i p hp=> ?_⟩;obtain⟨en,e1,e2,e3,e4⟩:=h4 i p hp;exact⟨en,e1,e2,e3.mono hE.pc,e4.mono hE⟩
theorem BoxRep.mono{E F:Env}(hE:Env.le E F){w:World}{h:Value}{B:Box}(hb:BoxRep P E w h B):BoxRep P F w h B:=by
 cases B with
 |cells cs=>
  obtain⟨b,t,arr,h1,h2,h3,h4⟩:=hb
  exact⟨b,t,arr,h1,h2,h3,fun i u hu=>(h4 i u hu).mono hE⟩
 |arr e sz sh xs=>
  obtain⟨h0,ys,h1,h2,h2',h3⟩:=hb
  exact⟨h0,ys,h1,h2,h2',fun i x j u hx hu=>(h3 i x j u hx hu).mono hE.pc⟩
 |arh e sz xs=>
  obtain⟨h0,ys,h1,h2,h2',h3⟩:=hb
  exact⟨h0,ys,h1,h2,h2',fun i x j u hx hu=>(h3 i x j u hx hu).mono hE⟩
 |mp es=>exact MapRep.mono hE hb
 |it m k d=>
  obtain⟨r,b,h1,h2,h3⟩:=hb
  exact⟨r,b,h1,h2,hE.mh _ _ h3⟩
 |si l p=>exact hb
 |arq e sz k xs=>
  obtain⟨h0,ys,h1,h2,h2',h3⟩:=hb
  exact⟨h0,ys,h1,h2,h2',fun i x j u hx hu=>(h3 i x j u hx hu).mono hE.pc⟩
 |dead sz l=>exact hb
theorem tu{w w':World}{e size:Nat}{v:Value}{n:Nat}{xs:List Value}(h:OwnM P w e size v n xs)
  (hb: ∀b,blk v=some b->w'.heap[b]? =w.heap[b]?):OwnM P w' e size v n xs:=by
 refine⟨h.1,?_⟩;rcases h.2 with hn|⟨g,cap,cur,fz,rfl,h1,h2,h3⟩
 ·exact .inl hn
 ·exact .inr ⟨g,cap,cur,fz,rfl,h1,(hb g rfl).trans h2,h3⟩
theorem arl{w w':World}{e size:Nat}{v:Value}{n:Nat}{xs:List Value}(h:OwnQ w e size v n xs)
  (hb: ∀b,blk v=some b->w'.heap[b]? =w.heap[b]?):OwnQ w' e size v n xs:=by
 refine⟨h.1,?_⟩;rcases h.2 with hn|⟨g,o,cap,cur,fz,rfl,hf,h1,h2⟩
 ·exact .inl hn
 ·exact .inr ⟨g,o,cap,cur,fz,rfl,hf,(hb g rfl).trans h1,h2⟩
theorem a06{w:World}{e size:Nat}{v:Value}{n:Nat}{xs:List Value}(h:OwnQ w e size v n xs){b:Nat}(hb:blk v=some b):b<w.heap.size:=by
 rcases h.2 with ⟨rfl,_⟩|⟨g,o,cap,cur,fz,rfl,hf,h1,h2⟩
 ·cases hb
 ·have:g=b:=by simpa [blk] using hb
  subst this;exact(Array.getElem?_eq_some_iff.1 h1).1
theorem BoxRep.same{E:Env}{w w':World}{h:Value}{B:Box}(hb:BoxRep P E w h B)(hs: ∀b,blk h=some b->w'.heap[b]? =w.heap[b]?):BoxRep P E w' h B:=by
 cases B with
 |cells cs=>
  obtain⟨b,t,arr,rfl,h2,h3,h4⟩:=hb
  exact⟨b,t,arr,rfl,(hs b rfl).trans h2,h3,h4⟩
 |arr e sz sh xs=>
  obtain⟨h0,ys,h1,h2,h3⟩:=hb
  exact⟨h0,ys,tu h1 hs,h2,h3⟩
 |arh e sz xs=>
  obtain⟨h0,ys,h1,h2,h3⟩:=hb
  exact⟨h0,ys,tu h1 hs,h2,h3⟩
 |mp es=>
  obtain⟨b,arr,rfl,h2,h3⟩:=hb
  exact⟨b,arr,rfl,(hs b rfl).trans h2,h3⟩
 |it m k d=>
  obtain⟨r,b,rfl,h2,h3⟩:=hb
  exact⟨r,b,rfl,(hs r rfl).trans h2,h3⟩
 |si l p=>
  obtain⟨r,rfl,h2⟩:=hb
  exact⟨r,rfl,(hs r rfl).trans h2⟩
 |arq e sz k xs=>
  obtain⟨h0,ys,h1,h2,h3⟩:=hb
  exact⟨h0,ys,arl h1 hs,h2,h3⟩
 |dead sz l=>
  refine⟨fun b hh=> ?_,hb.2⟩;have h1:=hb.1 b hh;have h2:=(hs b hh).trans (Array.getElem?_eq_getElem h1);exact(Array.getElem?_eq_some_iff.1 h2).1
theorem nr{w:World}{e size:Nat}{v:Value}{n:Nat}{xs:List Value}(h:OwnM P w e size v n xs){b:Nat}(hb:blk v=some b):b<w.heap.size:=by
 rcases h.2 with ⟨rfl,_⟩|⟨g,cap,cur,fz,rfl,h1,h2,h3⟩
 ·cases hb
 ·have:g=b:=by simpa [blk] using hb
  subst this;exact(Array.getElem?_eq_some_iff.1 h2).1
theorem BoxRep.lt{E:Env}{w:World}{h:Value}{B:Box}(hb:BoxRep P E w h B){b:Nat}(hh:blk h=some b):b<w.heap.size:=by
 cases B with
 |cells cs=>
  obtain⟨b',t,arr,rfl,h2,h3,h4⟩:=hb;have:b'=b:=by simpa [blk] using hh
  subst this
  exact(Array.getElem?_eq_some_iff.1 h2).1
 |arr e sz sh xs=>
  obtain⟨h0,ys,h1,h2,h3⟩:=hb
  exact nr h1 hh
 |arh e sz xs=>
  obtain⟨h0,ys,h1,h2,h3⟩:=hb
  exact nr h1 hh
 |mp es=>
  obtain⟨b',arr,rfl,h2,h3⟩:=hb;have:b'=b:=by simpa [blk] using hh
  subst this
  exact(Array.getElem?_eq_some_iff.1 h2).1
 |it m k d=>
  obtain⟨r,b',rfl,h2,h3⟩:=hb;have:r=b:=by simpa [blk] using hh
  subst this
  exact(Array.getElem?_eq_some_iff.1 h2).1
 |si l p=>
  obtain⟨r,rfl,h2⟩:=hb;have:r=b:=by simpa [blk] using hh
  subst this
  exact(Array.getElem?_eq_some_iff.1 h2).1
 |arq e sz k xs=>
  obtain⟨h0,ys,h1,h2,h3⟩:=hb
  exact a06 h1 hh
 |dead sz l=>exact hb.1 b hh
theorem SimW.step{x:Ctx P}{s s':St}{hv hv':Nat->Value}{w w':World}(h:SimW x s hv w)
  (hos:w'.os=w.os) (htape:w'.tape=w.tape) (hout:w'.output=w.output) (hsize:w.heap.size<=w'.heap.size)
  (hE:Env.le (env x s hv w) (env x s' hv' w')) (hkeep: ∀n,s n≠none->s' n≠none)
  (hold: ∀b,b<x.w0.heap.size->¬x.E b->w'.heap[b]? =w.heap[b]?)
  (hbox: ∀n B,s' n=some B->
   (s n=some B/\hv' n=hv n/\∀b,blk (hv n)=some b->w'.heap[b]? =w.heap[b]?)\/
   (BoxRep P (env x s' hv' w') w' (hv' n) B/\(∀p,x.hx n=some p->Box.keep p.2 p.1 B (hv' n))/\∀b,blk (hv' n)=some b->(x.w0.heap.size<=b\/x.E b)/\∀m C,m≠n->s' m=some C->blk (hv' m)≠some b)):
  SimW x s' hv' w' where
 extin n hn:=⟨hkeep n (h.extin n hn).1,(h.extin n hn).2⟩
 os:=hos.trans h.os
 tape:=htape.trans h.tape
 output:=hout.trans h.output
 size:=Nat.le_trans h.size hsize
 old b hb he:=(hold b hb he).trans (h.old b hb he)
 box n B hB:=by
  rcases hbox n B hB with ⟨h1,h2,h3⟩|⟨h1,_⟩
  ·rw[h2];exact((h.box n B h1).mono hE).same h3
  ·exact h1
 loc n B b hB hb:=by
  rcases hbox n B hB with ⟨h1,h2,h3⟩|⟨h1,h2,h3⟩
  ·rw[h2]at hb;exact h.loc n B b h1 hb
  ·exact(h3 b hb).1
 inj n m B C b hB hC hn hm:=by
  rcases Nat.decEq n m with hne|he
  ·rcases hbox n B hB with ⟨h1,h2,h3⟩|⟨h1,h2,h3⟩
   ·rcases hbox m C hC with ⟨k1,k2,k3⟩|⟨k1,k2,k3⟩
    ·rw[h2]at hn;rw[k2]at hm;exact h.inj n m B C b h1 k1 hn hm
    ·exact absurd hn ((k3 b hm).2 n B hne hB)
   ·exact absurd hm ((h3 b hn).2 m C (Ne.symm hne) hC)
  ·exact he
 ext n hh B hx hB:=by
  rcases hbox n B hB with ⟨h1,h2,h3⟩|⟨h1,h2,h3⟩
  ·rw[h2];exact h.ext n hh B hx h1
  ·exact h2 hh hx
 vis:=h.vis
 glb:=h.glb
 tabs:=h.tabs
theorem SimW.blk_lt{x:Ctx P}{s:St}{hv:Nat->Value}{w:World}(h:SimW x s hv w){n:Nat}{B:Box}{b:Nat}(hB:s n=some B)(hb:blk (hv n)=some b):b<w.heap.size:=
 (h.box n B hB).lt hb
theorem SimW.congr{x:Ctx P}{s s':St}{hv:Nat->Value}{w:World}(h:SimW x s hv w)(hs: ∀n,s' n=s n):SimW x s' hv w:=by
 have:s'=s:=funext hs;rw[this];exact h
end Go.Proofs.Am

/- Steps of the world: what they do to boxes and handles. -/
namespace Go.Proofs.Am
open Go Go.RowKit
variable {P:Program}
def upd{α:Type}(s:Nat->α)(d:Nat)(b:α):Nat->α:=fun n=>if n=d then b else s n
@[simp] theorem ap {α:Type} (s:Nat->α) (d:Nat) (b:α):upd s d b d=b:=by simp[upd]
theorem al{α:Type}(s:Nat->α){d n:Nat}(b:α)(h:n≠d):upd s d b n=s n:=by simp[upd,h]
theorem lu{x:Ctx P}{s s':St}{hv hv':Nat->Value}{w w':World}(hpc: ∀a v,pcOf x s hv w a v->pcOf x s' hv' w' a v)
  (hk: ∀n B,s n=some B->∃B',s' n=some B'/\Box.keep B (hv n) B' (hv' n)):Env.le (env x s hv w) (env x s' hv' w') where
 pc:=hpc
 ptr n o v:=by
  rintro⟨⟨cs,hc⟩,b,hb,hv0⟩;obtain⟨B',h1,h2⟩:=hk n _ hc;obtain⟨⟨ds,rfl⟩,h3⟩:=h2;exact⟨⟨ds,h1⟩,b,by rw[h3];exact hb,hv0⟩
 os n k v:=by
  rintro⟨hsh,B,sz,l,hs,hd,hle,hv0⟩;obtain⟨B',h1,h2⟩:=hk n _ hs;obtain⟨l',h3,h4,h5⟩:=(Box.keep_dim hd).1 h2;refine⟨hsh,B',sz,l',h1,h3,by omega,fun hkk=> ?_⟩;rw[h5 (by omega)];exact hv0 (by omega)
 oel n k i o v:=by
  rintro⟨hsh,B,sz,l,hs,hd,hle,hv0⟩;obtain⟨B',h1,h2⟩:=hk n _ hs;obtain⟨l',h3,h4,h5⟩:=(Box.keep_dim hd).1 h2;refine⟨hsh,B',sz,l',h1,h3,by omega,fun hkk=> ?_⟩;rw[h5 (by omega)];exact hv0 (by omega)
 mh n v:=by
  rintro⟨⟨hb,B,hs,hd⟩,hv0⟩;obtain⟨B',h1,h2⟩:=hk n _ hs;obtain⟨h3,h4⟩:=(Box.keep_M hd).1 h2;exact⟨⟨hb,B',h1,h3⟩,by rw[h4];exact hv0⟩
 oq n k v:=by
  rintro⟨hsh,B,sz,l,hs,hd,hle,hv0⟩;obtain⟨B',h1,h2⟩:=hk n _ hs;obtain⟨l',h3,h4,h5⟩:=(Box.keep_q hd).1 h2;refine⟨hsh,B',sz,l',h1,h3,by omega,fun hkk=> ?_⟩;rw[h5 (by omega)];exact hv0 (by omega)
theorem pcOf.lt{x:Ctx P}{s:St}{hv:Nat->Value}{w:World}{a:Addr}{v:Value}(h:pcOf x s hv w a v):a.block<w.heap.size:=block_lt_of_cell h.1
theorem SimW.drew{x:Ctx P}{s:St}{hv:Nat->Value}{w:World}(h:SimW x s hv w)(k:Nat):
  SimW x s hv (w.drewN k)/\Env.le (env x s hv w) (env x s hv (w.drewN k)):=
 have hE:Env.le (env x s hv w) (env x s hv (w.drewN k)):=lu (fun _ _ hp=>hp) fun n B hB=>⟨B,hB,Box.keep_refl _ _⟩
 ⟨h.step rfl rfl rfl (Nat.le_refl _) hE (fun _ hn=>hn) (fun _ _ _=>rfl) fun n B hB=> .inl ⟨hB,rfl,fun _ _=>rfl⟩,hE⟩
theorem aor{x:Ctx P}{s:St}{hv:Nat->Value}{w w':World}{d:Nat}{B:Box}{h:Value}(hd:s d=none)(hold: ∀b,b<w.heap.size->w'.heap[b]? =w.heap[b]?)
  (hh: ∀b,blk h=some b->w.heap.size<=b):Env.le (env x s hv w) (env x (upd s d (some B)) (upd hv d h) w'):=by
 refine lu (fun a v hp=>⟨(World.cell?_of_block (hold a.block hp.lt)).trans hp.1,hp.2.1,fun n C hC hb=> ?_⟩) fun n C hC=>⟨C,?_,?_⟩
 ·by_cases hn:n=d
  ·subst hn;rw[ap]at hb;have:=hh _ hb;have:=hp.lt;omega
  ·rw[al _ _ hn]at hC hb;exact hp.2.2 n C hC hb
 ·by_cases hn:n=d
  ·subst hn;rw[hd]at hC
   cases hC
  ·rw[al _ _ hn];exact hC
 ·by_cases hn:n=d
  ·subst hn;rw[hd]at hC
   cases hC
  ·rw[al _ _ hn];exact Box.keep_refl _ _
theorem SimW.new{x:Ctx P}{s:St}{hv:Nat->Value}{w w':World}{d:Nat}{B:Box}{hd:Value}(h:SimW x s hv w)(hn:s d=none)
  (hos:w'.os=w.os) (htape:w'.tape=w.tape) (hout:w'.output=w.output) (hsize:w.heap.size<=w'.heap.size)
  (hold: ∀b,b<w.heap.size->w'.heap[b]? =w.heap[b]?) (hh: ∀b,blk hd=some b->w.heap.size<=b)
  (hB: ∀E,Env.le (env x s hv w) E->BoxRep P E w' hd B):
  SimW x (upd s d (some B)) (upd hv d hd) w'/\Env.le (env x s hv w) (env x (upd s d (some B)) (upd hv d hd) w'):=by
 have hE:=aor (x:=x) (hv:=hv) (B:=B) hn hold hh
 have hx:x.hx d=none:=by
  cases hq:x.hx d with
  |none=>rfl
  |some k=>exact absurd hn (h.extin d (by rw[hq];simp)).1
 refine⟨h.step hos htape hout hsize hE (fun m hm=>by unfold upd;split<;>simp_all) (fun b hb _=>hold b (Nat.lt_of_lt_of_le hb h.size)) fun n C hC=> ?_,hE⟩;by_cases hnd:n=d
 ·subst hnd;rw[ap]at hC
  cases hC
  refine .inr ⟨?_,?_,?_⟩
  ·rw[ap];exact hB _ hE
  ·intro k hk;rw[hx]at hk
   cases hk
  ·intro b hb;rw[ap]at hb;refine⟨.inl (Nat.le_trans h.size (hh b hb)),fun m C hm hC=> ?_⟩;rw[al _ _ hm]at hC ⊢;intro hbm;have:=h.blk_lt hC hbm;have:=hh b hb;omega
 ·rw[al _ _ hnd]at hC ⊢;exact .inl ⟨hC,rfl,fun b hb=>hold b (h.blk_lt hC hb)⟩
theorem SimW.newCells{x:Ctx P}{s:St}{hv:Nat->Value}{w:World}{d:Nat}{arr:Array Value}{t:TypeId}{cs:List PV}(h:SimW x s hv w)(hn:s d=none)
  (hl:arr.size=cs.length) (hr: ∀i u,cs[i]? =some u->RV (env x s hv w) (arr.getD i undef) u):
  SimW x (upd s d (some (.cells cs))) (upd hv d (.pointer (some ⟨w.heap.size,0,none⟩))) (w.alloc (.cells arr t))/\
   Env.le (env x s hv w) (env x (upd s d (some (.cells cs))) (upd hv d (.pointer (some ⟨w.heap.size,0,none⟩))) (w.alloc (.cells arr t))):=
 h.new hn rfl rfl rfl (by simp) (fun b hb=>heap_alloc_old w _ b hb) (fun b hb=>by simp[blk]at hb;omega)
  fun E hE=>⟨w.heap.size,t,arr,rfl,heap_alloc_new w _,hl,fun i u hu=>(hr i u hu).mono hE⟩
theorem SimW.write{x:Ctx P}{s:St}{hv:Nat->Value}{w w':World}{n:Nat}{B B':Box}(h:SimW x s hv w)(hB:s n=some B)(hk:Box.keep B (hv n) B' (hv n))
  (hp: ∀off,¬B.perm off)
  (hos:w'.os=w.os) (htape:w'.tape=w.tape) (hout:w'.output=w.output) (hsize:w.heap.size<=w'.heap.size)
  (hold: ∀b,b<w.heap.size->blk (hv n)≠some b->w'.heap[b]? =w.heap[b]?)
  (hB': ∀E,Env.le (env x s hv w) E->BoxRep P E w' (hv n) B'):
  SimW x (upd s n (some B')) hv w'/\Env.le (env x s hv w) (env x (upd s n (some B')) hv w'):=by
 have hE:Env.le (env x s hv w) (env x (upd s n (some B')) hv w'):=by
  refine lu (fun a v ha=> ?_) fun m C hC=> ?_
  ·have hne:blk (hv n)≠some a.block:=fun e=>hp _ (ha.2.2 n B hB e);refine⟨(World.cell?_of_block (hold a.block ha.lt hne)).trans ha.1,ha.2.1,fun m C hC hb=> ?_⟩;by_cases hm:m=n
   ·subst hm;exact absurd hb hne
   ·rw[al _ _ hm]at hC;exact ha.2.2 m C hC hb
  ·by_cases hm:m=n
   ·subst hm;rw[hB]at hC
    cases hC
    exact⟨B',ap _ _ _,hk⟩
   ·exact⟨C,by rw[al _ _ hm];exact hC,Box.keep_refl _ _⟩
 refine⟨h.step hos htape hout hsize hE (fun m hm=>by unfold upd;split<;>simp_all) (fun b hb he=>hold b (Nat.lt_of_lt_of_le hb h.size) fun e=> ?_) fun m C hC=> ?_,hE⟩
 ·rcases h.loc n B b hB e with h1|h1
  ·omega
  ·exact he h1
 ·by_cases hm:m=n
  ·subst hm;rw[ap]at hC
   cases hC
   refine .inr ⟨hB' _ hE,fun hh hx=>Box.keep_trans (h.ext m hh B hx hB) hk,fun b hb=>⟨h.loc m B b hB hb,fun k C hk hC hbk=> ?_⟩⟩;rw[al _ _ hk]at hC;exact hk (h.inj k m C B b hC hB hbk hb)
  ·rw[al _ _ hm]at hC;refine .inl ⟨hC,rfl,fun b hb=>hold b (h.blk_lt hC hb) fun e=> ?_⟩;exact hm (h.inj m n C B b hC hB hb e)
theorem SimW.grow{x:Ctx P}{s:St}{hv:Nat->Value}{w w':World}{n:Nat}{e sz:Nat}{sh:Bool}{xs zs:List (List PV)}{v':Value}
  (h:SimW x s hv w) (hB:s n=some (.arr e sz sh xs))
  (hg:w.grownBy w' (hv n).ownBlock) (hcells: ∀b j u,blk (hv n)=some b->j<xs.length*sz->w.cell? ⟨b,j,none⟩=some u->w'.cell? ⟨b,j,none⟩=some u)
  (hv':blk v'=blk (hv n)\/∃b,blk v'=some b/\w.heap.size<=b) (hz:zs=[]->v'=hv n)
  (hB': ∀E,Env.le (env x s hv w) E->BoxRep P E w' v' (.arr e sz sh (xs++zs))):
  SimW x (upd s n (some (.arr e sz sh (xs++zs)))) (upd hv n v') w'/\Env.le (env x s hv w) (env x (upd s n (some (.arr e sz sh (xs++zs)))) (upd hv n v') w'):=by
 have hown: ∀v:Value,(∃ys,OwnM P w e sz v xs.length ys)->v.ownBlock=blk v:=by
  rintro v ⟨ys,hy⟩;rcases hy.2 with ⟨rfl,_⟩|⟨g,cap,cur,fz,rfl,_⟩<;>rfl
 obtain⟨h0,ys,hys,_⟩:=h.box n _ hB;have hob:(hv n).ownBlock=blk (hv n):=hown _ ⟨ys,hys⟩;have hold: ∀b,b<w.heap.size->blk (hv n)≠some b->w'.heap[b]? =w.heap[b]?:=fun b hb hne=>hg.block b hb (by rw[hob];exact fun e=>hne e.symm)
 have hE:Env.le (env x s hv w) (env x (upd s n (some (.arr e sz sh (xs++zs)))) (upd hv n v') w'):=by
  refine lu (fun a v ha=> ?_) fun m C hC=> ?_
  ·refine⟨?_,ha.2.1,fun m C hC hb=> ?_⟩
   ·by_cases hne:blk (hv n)=some a.block
    ·have hp:=ha.2.2 n _ hB hne
     cases sh with
     |false=>exact hp.elim
     |true=>
      have hsp:a=⟨a.block,a.off,none⟩:=by
       have h1:=ha.1
       cases a with
       |mk b o sp=>
        cases sp with
        |none=>rfl
        |some q=>
         exfalso;simp only[World.cell?]at h1;split at h1<;>simp at h1
      have:=hcells a.block a.off v hne hp (by rw[<-hsp];exact ha.1)
      rwa [<-hsp]at this
    ·exact(World.cell?_of_block (hold a.block ha.lt hne)).trans ha.1
   ·by_cases hm:m=n
    ·subst hm;rw[ap]at hC hb
     cases hC
     rcases hv' with h1|⟨b,h1,h2⟩
     ·have hp:=ha.2.2 m _ hB (h1 ▸ hb)
      cases sh with
      |false=>exact hp.elim
      |true=>
       show a.off<(xs++zs).length*sz;have hp':a.off<xs.length*sz:=hp;rw[List.length_append,Nat.add_mul];omega
     ·rw[h1]at hb;have hlt:=ha.lt;have:b=a.block:=by simpa using hb
      omega
    ·rw[al _ _ hm]at hC hb;exact ha.2.2 m C hC hb
  ·by_cases hm:m=n
   ·subst hm;rw[hB]at hC
    cases hC
    refine⟨_,ap _ _ _,_,rfl,by simp,fun hl=> ?_⟩;rw[ap];exact hz (List.eq_nil_of_length_eq_zero (by rw[List.length_append]at hl;omega))
   ·exact⟨C,by rw[al _ _ hm];exact hC,by rw[al _ _ hm];exact Box.keep_refl _ _⟩
 refine⟨h.step hg.os hg.tape hg.output hg.size hE (fun m hm=>by unfold upd;split<;>simp_all) (fun b hb he=>hold b (Nat.lt_of_lt_of_le hb h.size) fun e=> ?_) fun m C hC=> ?_,hE⟩
 ·rcases h.loc n _ b hB e with h1|h1
  ·omega
  ·exact he h1
 ·by_cases hm:m=n
  ·subst hm;rw[ap]at hC
   cases hC
   refine .inr ⟨by rw[ap];exact hB' _ hE,fun p hp=>Box.keep_trans (h.ext m p _ hp hB) ⟨_,rfl,by simp,fun hl=>by rw[ap];exact hz (List.eq_nil_of_length_eq_zero (by rw[List.length_append]at hl;omega))⟩,fun b hb=> ?_⟩;rw[ap]at hb;rcases hv' with h1|⟨b',h1,h2⟩
   ·rw[h1]at hb;refine⟨h.loc m _ b hB hb,fun k C hk hC hbk=> ?_⟩;rw[al _ _ hk]at hC hbk;exact hk (h.inj k m C _ b hC hB hbk hb)
   ·rw[h1]at hb;have:b'=b:=by simpa using hb
    subst this;refine⟨.inl (Nat.le_trans h.size h2),fun k C hk hC hbk=> ?_⟩;rw[al _ _ hk]at hC hbk;have:=h.blk_lt hC hbk;omega
  ·rw[al _ _ hm]at hC;refine .inl ⟨hC,al _ _ hm,fun b hb=>hold b (h.blk_lt hC hb) fun e=> ?_⟩;exact hm (h.inj m n C _ b hC hB hb e)
inductive Hin (d:Nat->Prop):PV->Prop
 |undef:Hin d .undef
 |bool (b:Bool):Hin d (.bool b)
 |int (k:IntKind) (n:Int):Hin d (.int k n)
 |str (l:List UInt8):Hin d (.str l)
 |nils:Hin d .nils
 |nilp:Hin d .nilp
 |nilf:Hin d .nilf
 |nili:Hin d .nili
 |nilm:Hin d .nilm
 |vs (xs:List (List PV)):Hin d (.vs xs)
 |sn (b:Bool):Hin d (.sn b)
 |el (cs:List PV):Hin d (.el cs)
 |ifc (t:TypeId) (u:PV):Hin d (.ifc t u)
 |ptr (n o:Nat) (h:d n):Hin d (.ptr n o)
 |os (n k:Nat) (h:d n):Hin d (.os n k)
 |oel (n k i o:Nat) (h:d n):Hin d (.oel n k i o)
 |osl (n k i:Nat) (h:d n):Hin d (.osl n k i)
 |vx (xs:List (List PV)):Hin d (.vx xs)
 |mh (n:Nat) (h:d n):Hin d (.mh n)
 |oq (n k:Nat) (h:d n):Hin d (.oq n k)
 |oqe (n k i sz off:Nat) (h:d n):Hin d (.oqe n k i sz off)
 |ago (cs:List PV) (h: ∀u∈cs,Hin d u):Hin d (.ago cs)
 |oss (n k i m:Nat) (h:d n):Hin d (.oss n k i m)
 |agg (cs:List PV) (h: ∀u∈cs,Hin d u):Hin d (.agg cs)
 |tup (cs:List PV) (h: ∀u∈cs,Hin d u):Hin d (.tup cs)
 |fn (f:FuncId) (cs:List PV) (h: ∀u∈cs,Hin d u):Hin d (.fn f cs)
theorem RV.hin{E F:Env}{d:Nat->Prop}(hpc: ∀a v,E.pc a v->F.pc a v)(hp: ∀n o v,d n->E.ptr n o v->F.ptr n o v)(ho: ∀n k v,d n->E.os n k v->F.os n k v)
  (he: ∀n k i o v,d n->E.oel n k i o v->F.oel n k i o v) (hm: ∀n v,d n->E.mh n v->F.mh n v) (hQ: ∀n k v,d n->E.oq n k v->F.oq n k v) {v:Value} {u:PV} (h:RV E v u) (hd:Hin d u):RV F v u:=by
 induction h with
 |undef v=>exact .undef v
 |pure h=>exact .pure (h.mono hpc)
 |ptr h=>cases hd with|ptr _ _ hn=>exact .ptr (hp _ _ _ hn h)
 |os h=>cases hd with|os _ _ hn=>exact .os (ho _ _ _ hn h)
 |oel h=>cases hd with|oel _ _ _ _ hn=>exact .oel (he _ _ _ _ _ hn h)
 |osl hv h=>cases hd with|osl _ _ _ hn=>exact .osl hv (he _ _ _ _ _ hn h)
 |vx hv h=>exact .vx hv (h.mono hpc)
 |mh h=>cases hd with|mh _ hn=>exact .mh (hm _ _ hn h)
 |oq h=>cases hd with|oq _ _ hn=>exact .oq (hQ _ _ _ hn h)
 |oqe h h1 hq=>cases hd with|oqe _ _ _ _ _ hn=>exact .oqe (hQ _ _ _ hn h) h1 hq
 |oss hv h=>cases hd with|oss _ _ _ _ hn=>exact .oss hv (he _ _ _ _ _ hn h)
 |ago hl _ ih=>cases hd with|ago _ hn=>exact .ago hl fun i u hu=>ih i u hu (hn u (List.mem_of_getElem? hu))
 |el U ha hr=>exact .el U (fun j u hu=>hpc _ _ (ha j u hu)) fun j u hu=>(hr j u hu).mono hpc
 |agg hl _ ih=>cases hd with|agg _ hn=>exact .agg hl fun i u hu=>ih i u hu (hn u (List.mem_of_getElem? hu))
 |tup hl _ ih=>cases hd with|tup _ hn=>exact .tup hl fun i u hu=>ih i u hu (hn u (List.mem_of_getElem? hu))
 |fn f hl _ ih=>cases hd with|fn _ _ hn=>exact .fn f hl fun i u hu=>ih i u hu (hn u (List.mem_of_getElem? hu))
def Box.hin(d:Nat->Prop):Box->Prop
 | .cells cs=> ∀u∈cs,Hin d u
 | .arr _ _ _ _=>True
 | .arh _ _ xs=> ∀x∈xs,∀u∈x,Hin d u
 | .mp es=> ∀e∈es,Hin d e.2
 | .it m _ _=>d m
 | .si _ _=>True
 | .arq _ _ _ _=>True
 | .dead _ _=>True
theorem SimW.drop{x:Ctx P}{s s':St}{hv:Nat->Value}{w:World}(h:SimW x s hv w)(hs: ∀n B,s' n=some B->s n=some B)
  (hd: ∀n B,s' n=some B->B.hin (fun m=>s' m≠none)) (he: ∀n,x.hx n≠none->s' n≠none):
  SimW x s' hv w/\(∀v u,RV (env x s hv w) v u->Hin (fun m=>s' m≠none) u->RV (env x s' hv w) v u):=by
 have hget: ∀n B,s' n≠none->s n=some B->s' n=some B:=fun n B hn hB=>by
  cases hq:s' n with
  |none=>exact absurd hq hn
  |some C=>
   have:=hs n C hq;rw[hB]at this;exact this.symm
 have hpc: ∀a v,pcOf x s hv w a v->pcOf x s' hv w a v:=fun a v hp=>⟨hp.1,hp.2.1,fun n B hB hb=>hp.2.2 n B (hs n B hB) hb⟩
 have hR: ∀v u,RV (env x s hv w) v u->Hin (fun m=>s' m≠none) u->RV (env x s' hv w) v u:=fun v u hv0 hu=>
  hv0.hin (F:=env x s' hv w) hpc
   (fun n o v hn=>by rintro⟨⟨cs,hc⟩,rest⟩;exact⟨⟨cs,hget n _ hn hc⟩,rest⟩)
   (fun n k v hn=>by rintro⟨hsh,B,sz,l,hc,rest⟩;exact⟨hsh,B,sz,l,hget n _ hn hc,rest⟩)
   (fun n k i o v hn=>by rintro⟨hsh,B,sz,l,hc,rest⟩;exact⟨hsh,B,sz,l,hget n _ hn hc,rest⟩)
   (fun n v hn=>by rintro⟨⟨hb,B,hc,hM⟩,rest⟩;exact⟨⟨hb,B,hget n _ hn hc,hM⟩,rest⟩)
   (fun n k v hn=>by rintro⟨hsh,B,sz,l,hc,rest⟩;exact⟨hsh,B,sz,l,hget n _ hn hc,rest⟩) hu
 refine⟨{h with extin:=fun n hn=>⟨he n hn,(h.extin n hn).2⟩,box:=fun n B hB=> ?_,loc:=fun n B b hB hb=>h.loc n B b (hs n B hB) hb,inj:=fun n m B C b hB hC=>h.inj n m B C b (hs n B hB) (hs m C hC),ext:=fun n k B hx hB=>h.ext n k B hx (hs n B hB)},hR⟩;have hb:=h.box n B (hs n B hB);have hin:=hd n B hB
 cases B with
 |cells cs=>
  obtain⟨b,t,arr,h1,h2,h3,h4⟩:=hb
  exact⟨b,t,arr,h1,h2,h3,fun i u hu=>hR _ _ (h4 i u hu) (hin u (List.mem_of_getElem? hu))⟩
 |arr e sz sh xs=>
  obtain⟨h0,ys,h1,h2,h2',h3⟩:=hb
  exact⟨h0,ys,h1,h2,h2',fun i x j u hx hu=>(h3 i x j u hx hu).mono hpc⟩
 |arh e sz xs=>
  obtain⟨h0,ys,h1,h2,h2',h3⟩:=hb
  exact⟨h0,ys,h1,h2,h2',fun i x j u hx hu=>hR _ _ (h3 i x j u hx hu) (hin x (List.mem_of_getElem? hx) u (List.mem_of_getElem? hu))⟩
 |mp es=>
  obtain⟨b,arr,h1,h2,h3,h4⟩:=hb;refine⟨b,arr,h1,h2,h3,fun i p hp=> ?_⟩;obtain⟨en,e1,e2,e3,e4⟩:=h4 i p hp
  exact⟨en,e1,e2,e3.mono hpc,hR _ _ e4 (hin p (List.mem_of_getElem? hp))⟩
 |it m k d=>
  obtain⟨r,b,h1,h2,⟨⟨hb,B,hc,hM⟩,rest⟩⟩:=hb
  exact⟨r,b,h1,h2,⟨⟨hb,B,hget m _ hin hc,hM⟩,rest⟩⟩
 |si l p=>exact hb
 |arq e sz k xs=>
  obtain⟨h0,ys,h1,h2,h2',h3⟩:=hb
  exact⟨h0,ys,h1,h2,h2',fun i x j u hx hu=>(h3 i x j u hx hu).mono hpc⟩
 |dead sz l=>exact hb
def Box.share:Box->Box
 | .arr e sz _ xs=> .arr e sz true xs
 |B=>B
theorem SimW.shared{x:Ctx P}{s s':St}{hv:Nat->Value}{w:World}(h:SimW x s hv w)(hs: ∀n,s' n=s n\/s' n=(s n).map Box.share):
  SimW x s' hv w/\Env.le (env x s hv w) (env x s' hv w):=by
 have hget: ∀n B',s' n=some B'->∃B,s n=some B/\(B'=B\/B'=B.share):=fun n B' hB'=>by
  rcases hs n with h1|h1
  ·exact⟨B',by rw[<-h1];exact hB',.inl rfl⟩
  ·rw[h1]at hB'
   cases hq:s n with
   |none=>rw[hq]at hB';cases hB'
   |some B=>
    rw[hq]at hB';exact⟨B,rfl,.inr (by simpa using hB'.symm)⟩
 have hE:Env.le (env x s hv w) (env x s' hv w):=by
  refine lu (fun a v ha=>⟨ha.1,ha.2.1,fun n B' hB' hb=> ?_⟩) fun n B hB=> ?_
  ·obtain⟨B,h1,h2⟩:=hget n B' hB';have hp:=ha.2.2 n B h1 hb;rcases h2 with rfl|rfl
   ·exact hp
   ·cases B with
    |arr e sz sh xs=>cases sh with|false=>exact hp.elim|true=>exact hp
    |_=>exact hp
  ·rcases hs n with h1|h1
   ·exact⟨B,by rw[h1];exact hB,Box.keep_refl _ _⟩
   ·refine⟨B.share,by rw[h1,hB];rfl,?_⟩
    cases B<;>simp[Box.keep,Box.share,Box.dim,Box.isM,Box.qdim]
 refine⟨{h with extin:=fun n hn=>⟨by have:=(h.extin n hn).1;rcases hs n with h1|h1<;>rw[h1]<;>simp[this],(h.extin n hn).2⟩,box:=fun n B' hB'=> ?_,loc:=fun n B' b hB' hb=> ?_,inj:=fun n m B' C' b hB' hC'=> ?_,ext:=fun n k B' hx hB'=> ?_},hE⟩
 ·obtain⟨B,h1,h2⟩:=hget n B' hB';have hb:=(h.box n B h1).mono hE;rcases h2 with rfl|rfl
  ·exact hb
  ·cases B with
   |cells cs=>exact hb
   |arr e sz sh xs=>exact hb
   |_=>exact hb
 ·obtain⟨B,h1,h2⟩:=hget n B' hB';exact h.loc n B b h1 hb
 ·obtain⟨B,h1,h2⟩:=hget n B' hB';obtain⟨C,k1,k2⟩:=hget m C' hC';exact h.inj n m B C b h1 k1
 ·obtain⟨B,h1,h2⟩:=hget n B' hB';refine Box.keep_trans (h.ext n k B hx h1) ?_;rcases h2 with rfl|rfl
  ·exact Box.keep_refl _ _
  ·cases B<;>simp[Box.keep,Box.share,Box.dim,Box.isM,Box.qdim]
theorem d8(b o j:Nat):(⟨b,o,none⟩:Addr).add j=⟨b,o+j,none⟩:=by
 unfold Addr.add;split
 ·rename_i h;simp[h]
 ·rfl
theorem gm{n sz i j:Nat}(hi:i<n)(hj:j<sz):i*sz+j<n*sz:=by
 have:(i+1)*sz<=n*sz:=Nat.mul_le_mul_right _ hi;rw[Nat.add_mul]at this;omega
theorem abq{α:Type}{l:List α}{i:Nat}{a:α}(d:α)(h:l[i]? =some a):l.getD i d=a:=by
 rw[bq,h];rfl
theorem BoxRep.cellAt{E:Env}{w:World}{h:Value}{e sz:Nat}{sh:Bool}{xs:List (List PV)}(hb:BoxRep P E w h (.arr e sz sh xs))(hn:0<xs.length):
  ∃g c,h= .slice (some ⟨g,0,none⟩) xs.length c/\xs.length<=c/\∀i x j u,xs[i]? =some x->x[j]? =some u->∃v,w.cell? ⟨g,i*sz+j,none⟩=some v/\RP E.pc v u:=by
 obtain⟨h0,ys,hy,h2,h2',h3⟩:=hb;rcases hy.2 with ⟨rfl,hnn⟩|⟨g,cap,cur,fz,rfl,h5,h6,h7,h8,h9,h10⟩
 ·omega
 ·refine⟨g,cap,rfl,h7,fun i x j u hx hu=> ?_⟩;have hi:i<xs.length:=(ca.1 hx).1
  have hj:j<sz:=by
   have:=(ca.1 hu).1;rw[h2 x (List.mem_of_getElem? hx)]at this;exact this
  have hlt:=gm hi hj;have hc:=hy.cellAt (i*sz+j) hlt;have hyl:i*sz+j<ys.length:=by rw[hy.1];exact hlt
  rw[bf hyl]at hc;refine⟨_,hc,?_⟩;have:=h3 i x j u hx hu
  rwa [abq undef (bf hyl)]at this
theorem BoxRep.cellAtH{E:Env}{w:World}{h:Value}{e sz:Nat}{xs:List (List PV)}(hb:BoxRep P E w h (.arh e sz xs))(hn:0<xs.length):
  ∃g c,h= .slice (some ⟨g,0,none⟩) xs.length c/\xs.length<=c/\∀i x j u,xs[i]? =some x->x[j]? =some u->∃v,w.cell? ⟨g,i*sz+j,none⟩=some v/\RV E v u:=by
 obtain⟨h0,ys,hy,h2,h2',h3⟩:=hb;rcases hy.2 with ⟨rfl,hnn⟩|⟨g,cap,cur,fz,rfl,h5,h6,h7,h8,h9,h10⟩
 ·omega
 ·refine⟨g,cap,rfl,h7,fun i x j u hx hu=> ?_⟩;have hi:i<xs.length:=(ca.1 hx).1
  have hj:j<sz:=by
   have:=(ca.1 hu).1;rw[h2 x (List.mem_of_getElem? hx)]at this;exact this
  have hlt:=gm hi hj;have hc:=hy.cellAt (i*sz+j) hlt;have hyl:i*sz+j<ys.length:=by rw[hy.1];exact hlt
  rw[bf hyl]at hc;refine⟨_,hc,?_⟩;have:=h3 i x j u hx hu
  rwa [abq undef (bf hyl)]at this
theorem BoxRep.dimAt{E:Env}{w:World}{h:Value}{B:Box}{sz l:Nat}(hb:BoxRep P E w h B)(hd:B.dim=some (sz,l))(hn:0<l): ∃g c,h= .slice (some ⟨g,0,none⟩) l c/\l<=c:=by
 cases B<;>simp[Box.dim]at hd<;>obtain⟨rfl,rfl⟩:=hd
 ·obtain⟨g,c,h1,h2,_⟩:=hb.cellAt hn;exact⟨g,c,h1,h2⟩
 ·obtain⟨g,c,h1,h2,_⟩:=hb.cellAtH hn;exact⟨g,c,h1,h2⟩
 ·exact hb.2 hn
theorem SimW.asList{x:Ctx P}{s:St}{hv:Nat->Value}{w:World}(h:SimW x s hv w){n e sz:Nat}{xs:List (List PV)}(hB:s n=some (.arr e sz true xs)):RP (env x s hv w).pc (hv n) (.vs xs):=by
 have hb:=h.box n _ hB;have hb':=hb;obtain⟨h0,ys,hy,h2,h2',h3⟩:=hb;rcases Nat.eq_zero_or_pos xs.length with hz|hp
 ·have hxs:xs=[]:=List.eq_nil_of_length_eq_zero hz;subst hxs;rcases hy.2 with ⟨hq,_⟩|⟨g,cap,cur,fz,hq,h5,h6,h7,h8,h9,h10⟩
  ·rw[hq];exact .vs (sz:=sz) (fun _ _=>undef) rfl (Nat.le_refl _) (by simp) (by simp) (by simp) (by simp)
  ·rw[hq];exact .vs (sz:=sz) (fun _ _=>undef) rfl h7 (by simp) (by simp) (by simp) (by simp)
 ·obtain⟨g,c,hq,hc,hcell⟩:=hb'.cellAt hp;rw[hq];have hloc:=h.loc n _ g hB (by rw[hq];rfl);refine .vs (fun i j=>(w.cell? ⟨g,i*sz+j,none⟩).getD undef) rfl hc h2 h2' (fun _=>⟨_,rfl,fun i x j u hx hu=> ?_⟩) fun i x j u hx hu=> ?_
  ·obtain⟨v,hv1,hv2⟩:=hcell i x j u hx hu;rw[d8,Nat.zero_add];have hi:i<xs.length:=(ca.1 hx).1
   have hj:j<sz:=by
    have:=(ca.1 hu).1;rw[h2 x (List.mem_of_getElem? hx)]at this;exact this
   refine⟨by rw[hv1];rfl,?_,fun m C hC hm=> ?_⟩
   ·rcases hloc with h1|h1
    ·exact .inr (.inl h1)
    ·exact .inr (.inr h1)
   ·have:m=n:=h.inj m n C _ g hC hB hm (by rw[hq];rfl);subst this;rw[hB]at hC
    cases hC
    exact gm hi hj
  ·obtain⟨v,hv1,hv2⟩:=hcell i x j u hx hu;rw[hv1];exact hv2
end Go.Proofs.Am

/- Operations on abstract values: the plain ones. -/
namespace Go.Proofs.Am
open Go Go.RowKit
variable {P:Program}
abbrev ASt:=List (Nat×Box)
def ah:ASt->Nat->Option Box
 |[],_=>none
 |(m,B)::r,n=>if m=n then some B else ah r n
def app(s:St):ASt->St
 |[]=>s
 |(n,B)::r=>app (upd s n (some B)) r
def a9f(P:Program)(o:Oper)(ρ:Operand->PV)(s:St)(u:PV)(δ:ASt):Prop:=
 ∀(x:Ctx P) (a:Act) (hv:Nat->Value) (w:World),SimW x s hv w->(∀y∈o.op.operands,RV (env x s hv w) (a.eval y) (ρ y))->
  ∀(next:Act->World->Prop) (Q:Exit->Act->World->Prop),
   (∀v hv' w',SimW x (app s δ) hv' w'->Env.le (env x s hv w) (env x (app s δ) hv' w')->RV (env x (app s δ) hv' w') v u->next (a.put o.dst v) w')->o.wp P a w next Q
def LOp(P:Program)(o:Oper)(ρ:Operand->PV)(σ:ASt)(u:PV)(δ:ASt)(F:List Nat):Prop:=
 (∀p∈δ,p.1∈F)/\∀s:St,(∀n∈F,s n=ah σ n)->a9f P o ρ s u δ
abbrev KT:=PV->ASt->List Nat->Prop
section inv
variable {E:Env} {v:Value}
theorem RV.int_inv{k:IntKind}{n:Int}(h:RV E v (.int k n)):v= .int k n:=by cases h with|pure h=>cases h;rfl
theorem RV.bool_inv{b:Bool}(h:RV E v (.bool b)):v= .bool b:=by cases h with|pure h=>cases h;rfl
theorem RV.str_inv{l:List UInt8}(h:RV E v (.str l)):v= .string ⟨l.toArray⟩:=by cases h with|pure h=>cases h;rfl
theorem RV.nils_inv(h:RV E v .nils):v= .slice none 0 0:=by cases h with|pure h=>cases h;rfl
theorem RV.nilp_inv(h:RV E v .nilp):v= .pointer none:=by cases h with|pure h=>cases h;rfl
theorem RV.nilf_inv(h:RV E v .nilf):v= .nilFunc:=by cases h with|pure h=>cases h;rfl
theorem RV.vs_inv{xs:List (List PV)}(h:RV E v (.vs xs)):RP E.pc v (.vs xs):=by cases h with|pure h=>exact h
theorem RV.ptr_inv{n off:Nat}(h:RV E v (.ptr n off)):E.ptr n off v:=by cases h with|pure h=>cases h|ptr h=>exact h
theorem RV.os_inv{n k:Nat}(h:RV E v (.os n k)):E.os n k v:=by cases h with|pure h=>cases h|os h=>exact h
theorem RV.oel_inv{n k i off:Nat}(h:RV E v (.oel n k i off)):E.oel n k i off v:=by cases h with|pure h=>cases h|oel h=>exact h
theorem RV.osl_inv{n k i:Nat}(h:RV E v (.osl n k i)): ∃q c,v= .slice (some q) (k - i) c/\E.oel n k i 0 (.pointer (some q)):=by cases h with|pure h=>cases h|osl hv h=>exact⟨_,_,hv,h⟩
theorem RV.mh_inv{n:Nat}(h:RV E v (.mh n)):E.mh n v:=by cases h with|pure h=>cases h|mh h=>exact h
theorem RV.oq_inv{n k:Nat}(h:RV E v (.oq n k)):E.oq n k v:=by cases h with|pure h=>cases h|oq h=>exact h
theorem RV.oqe_inv{n k i sz off:Nat}(h:RV E v (.oqe n k i sz off)): ∃v0,E.oq n k v0/\(∃q,v= .pointer (some q))/\∀b o m c,v0= .slice (some ⟨b,o,none⟩) m c->i<m->v= .pointer (some ⟨b,o+(i*sz+off),none⟩):=by cases h with|pure h=>cases h|oqe h h1 hq=>exact⟨_,h,h1,hq⟩
theorem RV.agg_inv{cs:List PV}(h:RV E v (.agg cs)): ∃vs:Array Value,v= .agg vs/\vs.size=cs.length/\∀i u,cs[i]? =some u->RV E (vs.getD i Go.undef) u:=by
 cases h with
 |pure h=>cases h with|agg hl hh=>exact⟨_,rfl,hl,fun i u hu=> .pure (hh i u hu)⟩
 |agg hl hh=>exact⟨_,rfl,hl,hh⟩
theorem RV.tup_inv{cs:List PV}(h:RV E v (.tup cs)): ∃vs:Array Value,v= .tuple vs/\vs.size=cs.length/\∀i u,cs[i]? =some u->RV E (vs.getD i Go.undef) u:=by
 cases h with
 |pure h=>cases h with|tup hl hh=>exact⟨_,rfl,hl,fun i u hu=> .pure (hh i u hu)⟩
 |tup hl hh=>exact⟨_,rfl,hl,hh⟩
theorem RV.oss_inv{n k i m:Nat}(h:RV E v (.oss n k i m)): ∃q c,v= .slice (some q) m c/\E.oel n k i 0 (.pointer (some q)):=by cases h with|pure h=>cases h|oss hv h=>exact⟨_,_,hv,h⟩
theorem RV.ago_inv{cs:List PV}(h:RV E v (.ago cs)): ∃vs:Array Value,v= .agg vs/\vs.size=cs.length/\∀i u,cs[i]? =some u->RV E (vs.getD i Go.undef) u:=by
 cases h with
 |pure h=>cases h
 |ago hl hh=>exact⟨_,rfl,hl,hh⟩
theorem RV.fn_inv{f:FuncId}{cs:List PV}(h:RV E v (.fn f cs)): ∃vs:Array Value,v= .func (.func f) #[] vs/\vs.size=cs.length/\∀i u,cs[i]? =some u->RV E (vs.getD i Go.undef) u:=by
 cases h with
 |pure h=>cases h;exact⟨#[],rfl,rfl,by simp⟩
 |fn f hl hh=>exact⟨_,rfl,hl,hh⟩
theorem RV.el_inv{cs:List PV}(h:RV E v (.el cs)): ∃(q:Addr) (U:Nat->Value),v= .pointer (some q)/\(∀j u,cs[j]? =some u->E.pc (q.add j) (U j))/\∀j u,cs[j]? =some u->RP E.pc (U j) u:=by
 cases h with
 |pure h=>cases h
 |el U ha hr=>exact⟨_,U,rfl,ha,hr⟩
theorem RP.vs_inv{pc:Addr->Value->Prop}{xs:List (List PV)}(h:RP pc v (.vs xs)): ∃(a:Option Addr) (c sz:Nat) (U:Nat->Nat->Value),v= .slice a xs.length c/\xs.length<=c/\(∀x∈xs,x.length=sz)/\(∀x∈xs,x.all eh=true)/\
  (0<xs.length->∃ad,a=some ad/\∀i x j u,xs[i]? =some x->x[j]? =some u->pc (ad.add (i*sz+j)) (U i j))/\∀i x j u,xs[i]? =some x->x[j]? =some u->RP pc (U i j) u:=by
 cases h with
 |vs U hn hc hsz h1 ha hr=>
  subst hn;exact⟨_,_,_,U,rfl,hc,hsz,h1,ha,hr⟩
end inv
theorem RV.os_arr{P:Program}{x:Ctx P}{s:St}{hv:Nat->Value}{w:World}{v:Value}{n k:Nat}(h:RV (env x s hv w) v (.os n k)){e sz:Nat}{sh:Bool}{xs:List (List PV)}(hs:s n=some (.arr e sz sh xs)):
  (∃a c,v= .slice a k c)/\∃e sz sh xs,s n=some (.arr e sz sh xs)/\k<=xs.length/\(k=xs.length->v=hv n):=by
 obtain⟨h1,B,sz',l,h2,h3,h4,h5⟩:=h.os_inv;rw[hs]at h2
 cases h2
 simp only[Box.dim,Option.some.injEq,Prod.mk.injEq]at h3;obtain⟨rfl,rfl⟩:=h3;exact⟨h1,e,sz,sh,xs,hs,h4,h5⟩
theorem RV.oel_arr{P:Program}{x:Ctx P}{s:St}{hv:Nat->Value}{w:World}{v:Value}{n k i off:Nat}(h:RV (env x s hv w) v (.oel n k i off)){e sz:Nat}{sh:Bool}{xs:List (List PV)}(hs:s n=some (.arr e sz sh xs)):
  (∃q,v= .pointer (some q))/\∃e sz sh xs,s n=some (.arr e sz sh xs)/\k<=xs.length/\(k=xs.length->i<k->∃b c,hv n= .slice (some ⟨b,0,none⟩) k c/\v= .pointer (some ⟨b,i*sz+off,none⟩)):=by
 obtain⟨h1,B,sz',l,h2,h3,h4,h5⟩:=h.oel_inv;rw[hs]at h2
 cases h2
 simp only[Box.dim,Option.some.injEq,Prod.mk.injEq]at h3;obtain⟨rfl,rfl⟩:=h3;exact⟨h1,e,sz,sh,xs,hs,h4,h5⟩
def abk:Value->PV
 | .bool b=> .bool b
 | .int k n=> .int k n
 | .string s=> .str s.data.toList
 | .pointer none=> .nilp
 | .slice none 0 0=> .nils
 | .map none=> .nilm
 | .nilFunc=> .nilf
 | .nilIface=> .nili
 |_=> .undef
theorem vf(E:Env)(v:Value):RV E v (abk v):=by
 unfold abk;split
 ·exact .pure (.bool _)
 ·exact .pure (.int _ _)
 ·rename_i s;exact .pure (RP.str s.data.toList)
 ·exact .pure .nilp
 ·exact .pure .nils
 ·exact .pure .nilm
 ·exact .pure .nilf
 ·exact .pure .nili
 ·exact .undef _
def du(P:Program)(t:TypeId):Option Nat:=(P.info? t).map (·.size)
def bytesOf(P:Program)(t:TypeId):Option Nat:=(P.info? t).map (·.bytes)
def jt(P:Program)(t:TypeId):Option Bool:=(P.underlying t).map TypeDesc.isRow
def br(P:Program)(t:TypeId):Option TypeId:=match P.underlying t with|some (.slice e)=>some e|_=>none
def t8(P:Program)(t:TypeId):Option (Nat×TypeId):=match P.underlying t with|some (.array n e)=>some (n,e)|_=>none
def mo(P:Program)(t:TypeId):Option IntKind:=match P.underlying t with|some (.int k)=>some k|_=>none
def a2q(P:Program)(t:TypeId)(f:Nat):Option (Nat×TypeId):=match P.underlying t with|some (.struct fs)=>(fs[f]?).map fun x=>(x.offset,x.type)|_=>none
def bk(P:Program)(t:TypeId):Option (List PV):=((P.info? t).bind (·.zero)).map fun z=>z.cells.toList.map abk
theorem jl{P:Program}{t:TypeId}{b:Bool}(h:jt P t=some b)(w:World):(isAgg t).run P w= .ok b w:=by
 unfold jt at h
 cases hu:P.underlying t with
 |none=>rw[hu]at h;cases h
 |some d=>
  rw[hu]at h;simp only[Option.map_some,Option.some.injEq]at h;subst h;unfold isAgg;rw[Sem.run_bind,run_underlying hu w]
  cases d<;>simp[TypeDesc.isRow]
theorem dq{P:Program}{t:TypeId}{n:Nat}(h:du P t=some n)(w:World):(sizeOf t).run P w= .ok n w:=by
 unfold du at h
 cases hu:P.info? t with
 |none=>rw[hu]at h;cases h
 |some d=>
  rw[hu]at h;simp only[Option.map_some,Option.some.injEq]at h;simp[sizeOf,typeInfo,hu,h]
theorem az{P:Program}{t:TypeId}{e:TypeId}(h:br P t=some e):P.underlying t=some (.slice e):=by
 unfold br at h;split at h
 ·rename_i h1;rw[h1];simpa using h
 ·cases h
theorem abt{P:Program}{t:TypeId}{n:Nat}{e:TypeId}(h:t8 P t=some (n,e)):P.underlying t=some (.array n e):=by
 unfold t8 at h;split at h
 ·rename_i h1;rw[h1];simpa using h
 ·cases h
theorem aeh{P:Program}{t:TypeId}{k:IntKind}(h:mo P t=some k):P.underlying t=some (.int k):=by
 unfold mo at h;split at h
 ·rename_i h1;rw[h1];simpa using h
 ·cases h
theorem ak{P:Program}{o:Oper}{ρ:Operand->PV}{σ:ASt}{u:PV}{F:List Nat}
  (h: ∀(s:St),(∀n∈F,s n=ah σ n)->∀(x:Ctx P) (a:Act) (hv:Nat->Value) (w:World),SimW x s hv w->(∀y∈o.op.operands,RV (env x s hv w) (a.eval y) (ρ y))->
   ∃v,(execOp a.eval o).run P w= .ok (.value v) w/\RV (env x s hv w) v u):LOp P o ρ σ u [] F:=by
 refine⟨by simp,fun s hs x a hv w hW hops next Q hn=> ?_⟩;obtain⟨v,h1,h2⟩:=h s hs x a hv w hW hops;unfold Oper.wp;rw[h1,Oper.upon_value];exact hn v hv w hW (Env.le.refl _) h2
theorem ajz{P:Program}{o:Oper}{ρ:Operand->PV}{σ:ASt}{y:Operand}(ho:o.op= .move y\/o.op= .assign y):LOp P o ρ σ (ρ y) [] []:=by
 refine ak fun s hs x a hv w hW hops=>⟨a.eval y,?_,?_⟩
 ·rcases ho with ho|ho<;>simp[execOp,ho]
 ·exact hops y (by rcases ho with ho|ho<;>simp[ho,Op.operands])
theorem awb{P:Program}{o:Oper}{ρ:Operand->PV}{σ:ASt}{c y z:Operand}{b:Bool}(ho:o.op= .pick c y z)(hc:ρ c= .bool b):LOp P o ρ σ (if b then ρ y else ρ z) [] []:=by
 refine ak fun s hs x a hv w hW hops=>⟨if b then a.eval y else a.eval z,?_,?_⟩
 ·have h:=hops c (by simp[ho,Op.operands]);rw[hc]at h;simp[execOp,ho,h.bool_inv,asBool]
 ·have h1:=hops y (by simp[ho,Op.operands]);have h2:=hops z (by simp[ho,Op.operands])
  cases b<;>simp[h1,h2]
theorem tf{P:Program}{o:Oper}{ρ:Operand->PV}{σ:ASt}{y:Operand}(ho:o.op= .nilCheck y)(hy:(∃n k,ρ y= .ptr n k)\/∃cs,ρ y= .el cs):LOp P o ρ σ (ρ y) [] []:=by
 refine ak fun s hs x a hv w hW hops=>⟨a.eval y,?_,hops y (by simp[ho,Op.operands])⟩;have h:=hops y (by simp[ho,Op.operands]);rcases hy with ⟨n,k,hy⟩|⟨cs,hy⟩
 ·rw[hy]at h;obtain⟨_,b,_,hb⟩:=h.ptr_inv;simp[execOp,ho,hb]
 ·rw[hy]at h;obtain⟨q,U,hb,_⟩:=h.el_inv;simp[execOp,ho,hb]
theorem aim{P:Program}{o:Oper}{ρ:Operand->PV}{σ:ASt}{y:Operand}{i:Nat}{us:List PV}{u:PV}(ho:o.op= .extract y i)(hy:ρ y= .tup us)(hu:us[i]? =some u):LOp P o ρ σ u [] []:=by
 refine ak fun s hs x a hv w hW hops=> ?_;have h:=hops y (by simp[ho,Op.operands]);rw[hy]at h;obtain⟨vs,hv1,hl,hr⟩:=h.tup_inv;have hi:i<vs.size:=by rw[hl];exact(ca.1 hu).1
 refine⟨vs.getD i undef,?_,hr i u hu⟩;simp[execOp,ho,hv1,Instr.extract,hi]
theorem Addr.add_assoc'(a:Addr)(i j:Nat):(a.add i).add j=a.add (i+j):=by
 unfold Addr.add;by_cases hi:i=0<;>by_cases hj:j=0<;>simp[hi,hj,Nat.add_assoc]
theorem o7{P:Program}{t:TypeId}{f off:Nat}{ft:TypeId}(h:a2q P t f=some (off,ft)){n:Nat}(hn:du P ft=some (n+1))(q:Addr)(w:World):
  (Instr.fieldAt t (.pointer (some q)) f).run P w= .ok (.pointer (some (q.add off))) w:=by
 unfold a2q at h;split at h
 ·rename_i fs hu
  cases hf:fs[f]? with
  |none=>rw[hf]at h;cases h
  |some fd=>
   rw[hf]at h;simp only[Option.map_some,Option.some.injEq,Prod.mk.injEq]at h;obtain⟨rfl,rfl⟩:=h;simp[Instr.fieldAt,run_underlying hu,hf,Instr.sureAddr,fieldPlace,dq hn]
 ·cases h
theorem rq{P:Program}{o:Oper}{ρ:Operand->PV}{σ:ASt}{t:TypeId}{y:Operand}{f n k off:Nat}{ft:TypeId}{m:Nat}(ho:o.op= .fieldAddr t y f)(hy:ρ y= .ptr n k)
  (hf:a2q P t f=some (off,ft)) (hm:du P ft=some (m+1)):LOp P o ρ σ (.ptr n (k+off)) [] []:=by
 refine ak fun s hs x a hv w hW hops=> ?_;have h:=hops y (by simp[ho,Op.operands]);rw[hy]at h;obtain⟨hc,b,hb,hp⟩:=h.ptr_inv;refine⟨.pointer (some ⟨b,k+off,none⟩),?_,.ptr ⟨hc,b,hb,rfl⟩⟩;simp[execOp,ho,hp,o7 hf hm,d8]
theorem uc{P:Program}{o:Oper}{ρ:Operand->PV}{σ:ASt}{t:TypeId}{y:Operand}{f off:Nat}{ft:TypeId}{m:Nat}{cs:List PV}(ho:o.op= .fieldAddr t y f)(hy:ρ y= .el cs)
  (hf:a2q P t f=some (off,ft)) (hm:du P ft=some (m+1)):LOp P o ρ σ (.el (cs.drop off)) [] []:=by
 refine ak fun s hs x a hv w hW hops=> ?_;have h:=hops y (by simp[ho,Op.operands]);rw[hy]at h;obtain⟨q,U,hq,ha,hr⟩:=h.el_inv;refine⟨.pointer (some (q.add off)),?_,.el (fun j=>U (off+j)) (fun j u hu=> ?_) fun j u hu=> ?_⟩
 ·simp[execOp,ho,hq,o7 hf hm]
 ·rw[List.getElem?_drop]at hu;rw[Addr.add_assoc'];exact ha _ u hu
 ·rw[List.getElem?_drop]at hu;exact hr _ u hu
theorem kg{P:Program}{o:Oper}{ρ:Operand->PV}{σ:ASt}{t:TypeId}{y:Operand}{f off n k i o1:Nat}{ft:TypeId}{m:Nat}{B:Box}{sz l:Nat}
  (ho:o.op= .fieldAddr t y f) (hy:ρ y= .oel n k i o1) (hB:ah σ n=some B) (hd:B.dim=some (sz,l)) (hk:k=l) (hi:i<k)
  (hf:a2q P t f=some (off,ft)) (hm:du P ft=some (m+1)):LOp P o ρ σ (.oel n k i (o1+off)) [] [n]:=by
 refine ak fun s hs x a hv w hW hops=> ?_;have h:=hops y (by simp[ho,Op.operands]);rw[hy]at h;have hsn:s n=some B:=by rw[hs n (by simp),hB]
 obtain⟨_,B',sz',l',h1,hd',h2,h3⟩:=h.oel_inv;rw[hsn]at h1
 cases h1
 rw[hd]at hd'
 cases hd'
 obtain⟨b,c,hb,hp⟩:=h3 hk hi;refine⟨.pointer (some ⟨b,i*sz+(o1+off),none⟩),?_,.oel ⟨⟨_,rfl⟩,B,sz,l,hsn,hd,h2,fun _ _=>⟨b,c,hb,rfl⟩⟩⟩;simp[execOp,ho,hp,o7 hf hm,d8,Nat.add_assoc]
theorem i6{P:Program}{t e:TypeId}{sz:Nat}(he:br P t=some e)(hsz:du P e=some sz)(ad:Addr)(n c:Nat)(k:IntKind)(i:Int)(h0:0<=i)(h1:i<n)(w:World):
  (Instr.indexAt t (.slice (some ad) n c) (.int k i)).run P w= .ok (.pointer (some (ad.add (i.toNat*sz)))) w:=by
 simp[Instr.indexAt,run_underlying (az he),asIntOf,dq hsz,h0,h1]
theorem ad3{P:Program}{o:Oper}{ρ:Operand->PV}{σ:ASt}{t e:TypeId}{y z:Operand}{sz:Nat}{xs:List (List PV)}{k:IntKind}{i:Int}(ho:o.op= .indexAddr t y z)(hy:ρ y= .vs xs)
  (hz:ρ z= .int k i) (he:br P t=some e) (hsz:du P e=some sz) (h0:0<=i) (h1:i<xs.length) (hlen:(xs.getD i.toNat []).length=sz):LOp P o ρ σ (.el (xs.getD i.toNat [])) [] []:=by
 refine ak fun s hs x a hv w hW hops=> ?_;have h:=hops y (by simp[ho,Op.operands]);have hh:=hops z (by simp[ho,Op.operands]);rw[hy]at h;rw[hz]at hh;obtain⟨ad0,c,sz',U,hv1,hc,hl,_,hA,hr⟩:=h.vs_inv.vs_inv;obtain⟨ad,rfl,ha⟩:=hA (by omega);have hi:i.toNat<xs.length:=by omega
 have hg:xs[i.toNat]? =some (xs.getD i.toNat []):=by rw[bq,bf hi];rfl
 have:sz'=sz:=by rw[<-hl _ (List.mem_of_getElem? hg),hlen]
 subst this;refine⟨.pointer (some (ad.add (i.toNat*sz'))),?_,.el (fun j=>U i.toNat j) (fun j u hu=> ?_) fun j u hu=>hr _ _ j u hg hu⟩
 ·simp[execOp,ho,hv1,hh.int_inv,i6 he hsz ad xs.length c k i h0 h1]
 ·rw[Addr.add_assoc'];exact ha _ _ j u hg hu
theorem s8{P:Program}{o:Oper}{ρ:Operand->PV}{σ:ASt}{t e:TypeId}{y z:Operand}{n m sz l:Nat}{B:Box}{k:IntKind}{i:Int}(ho:o.op= .indexAddr t y z)(hy:ρ y= .os n m)
  (hz:ρ z= .int k i) (hB:ah σ n=some B) (hd:B.dim=some (sz,l)) (hm:m=l) (he:br P t=some e) (hsz:du P e=some sz) (h0:0<=i) (h1:i<l):LOp P o ρ σ (.oel n m i.toNat 0) [] [n]:=by
 refine ak fun s hs x a hv w hW hops=> ?_;have h:=hops y (by simp[ho,Op.operands]);have hh:=hops z (by simp[ho,Op.operands]);rw[hy]at h;rw[hz]at hh;have hsn:s n=some B:=by rw[hs n (by simp),hB]
 obtain⟨_,B',sz1,l1,h2,hd1,h3,h4⟩:=h.os_inv;rw[hsn]at h2
 cases h2
 rw[hd]at hd1
 cases hd1
 have hvn:=h4 hm;obtain⟨g,c,hq,hc⟩:=(hW.box n _ hsn).dimAt hd (by omega);refine⟨.pointer (some ⟨g,i.toNat*sz,none⟩),?_,.oel ⟨⟨_,rfl⟩,B,sz,l,hsn,hd,h3,fun _ _=>⟨g,c,by rw[hq,hm],rfl⟩⟩⟩;simp[execOp,ho,hvn,hq,hh.int_inv,i6 he hsz ⟨g,0,none⟩ l c k i h0 h1,d8]
theorem ab9{P:Program}{o:Oper}{ρ:Operand->PV}{σ:ASt}{t e:TypeId}{y z:Operand}{n m sz len:Nat}{k:IntKind}{i:Int}(ho:o.op= .indexAddr t y z)(hy:ρ y= .ptr n m)
  (hz:ρ z= .int k i) (he:t8 P t=some (len,e)) (hsz:du P e=some sz) (h0:0<=i) (h1:i<len):LOp P o ρ σ (.ptr n (m+i.toNat*sz)) [] []:=by
 refine ak fun s hs x a hv w hW hops=> ?_;have h:=hops y (by simp[ho,Op.operands]);have hh:=hops z (by simp[ho,Op.operands]);rw[hy]at h;rw[hz]at hh;obtain⟨hc,b,hb,hp⟩:=h.ptr_inv;refine⟨.pointer (some ⟨b,m+i.toNat*sz,none⟩),?_,.ptr ⟨hc,b,hb,rfl⟩⟩;simp[execOp,ho,hp,hh.int_inv,Instr.indexAt,run_underlying (abt he),asIntOf,dq hsz,h0,h1,Instr.sureAddr,d8]
theorem ip(l:List Value)(i:Nat):l.toArray.getD i undef=l.getD i undef:=by
 simp[Array.getD_eq_getD_getElem?]
theorem d7{P:Program}{t:TypeId}(h:jt P t=some false){q:Addr}{v:Value}{w:World}(hc:w.cell? q=some v):(loadVar t q).run P w= .ok v w:=by
 simp[loadVar,jl h,hc]
theorem ed{P:Program}{t:TypeId}{n:Nat}(h:jt P t=some true)(hs:du P t=some n){q:Addr}{f:Nat->Value}{w:World}(hc: ∀j,j<n->w.cell? (q.add j)=some (f j)):
  (loadVar t q).run P w= .ok (.agg ((List.range n).map f).toArray) w:=by
 simp[loadVar,jl h,dq hs,run_loadCells w q n f hc]
theorem pt{E:Env}{n:Nat}{f:Nat->Value}{cs:List PV}(hl:n=cs.length)(h: ∀i u,cs[i]? =some u->RV E (f i) u):RV E (.agg ((List.range n).map f).toArray) (.agg cs):=by
 refine .agg (by simp[hl]) fun i u hu=> ?_;have hi:i<n:=by rw[hl];exact(ca.1 hu).1
 rw[ip,bq,List.getElem?_map,List.getElem?_range hi];exact h i u hu
theorem abd{E:Env}{w:World}{h:Value}{cs:List PV}(hb:BoxRep P E w h (.cells cs)): ∃b,h= .pointer (some ⟨b,0,none⟩)/\∀i u,cs[i]? =some u->∃v,w.cell? ⟨b,i,none⟩=some v/\RV E v u:=by
 obtain⟨b,t,arr,h1,h2,h3,h4⟩:=hb;refine⟨b,h1,fun i u hu=>⟨arr.getD i undef,?_,h4 i u hu⟩⟩;have hi:i<arr.size:=by rw[h3];exact(ca.1 hu).1
 rw[cell_of_row w b i arr t (0,0) h2];simp[hi]
theorem ada{P:Program}{o:Oper}{ρ:Operand->PV}{σ:ASt}{t:TypeId}{y:Operand}{n off:Nat}{cs:List PV}{u:PV}(ho:o.op= .load t y)(hy:ρ y= .ptr n off)
  (hB:ah σ n=some (.cells cs)) (ht:jt P t=some false) (hu:cs[off]? =some u):LOp P o ρ σ u [] [n]:=by
 refine ak fun s hs x a hv w hW hops=> ?_;have h:=hops y (by simp[ho,Op.operands]);rw[hy]at h;have hsn:s n=some (.cells cs):=by rw[hs n (by simp),hB]
 obtain⟨_,b,hb,hp⟩:=h.ptr_inv;obtain⟨b',hb',hcell⟩:=abd (hW.box n _ hsn);rw[hb]at hb'
 cases hb'
 obtain⟨v,hv1,hv2⟩:=hcell off u hu;refine⟨v,?_,hv2⟩;simp[execOp,ho,hp,Instr.loadAt,Instr.sureAddr,d7 ht hv1]
theorem aa7{P:Program}{o:Oper}{ρ:Operand->PV}{σ:ASt}{t:TypeId}{y:Operand}{n off m:Nat}{cs:List PV}(ho:o.op= .load t y)(hy:ρ y= .ptr n off)
  (hB:ah σ n=some (.cells cs)) (ht:jt P t=some true) (hm:du P t=some m) (hle:off+m<=cs.length):LOp P o ρ σ (.agg ((cs.drop off).take m)) [] [n]:=by
 refine ak fun s hs x a hv w hW hops=> ?_;have h:=hops y (by simp[ho,Op.operands]);rw[hy]at h;have hsn:s n=some (.cells cs):=by rw[hs n (by simp),hB]
 obtain⟨_,b,hb,hp⟩:=h.ptr_inv;obtain⟨b',hb',hcell⟩:=abd (hW.box n _ hsn);rw[hb]at hb'
 cases hb'
 have hall: ∀j,j<m->w.cell? ((⟨b,off,none⟩:Addr).add j)=some ((w.cell? ⟨b,off+j,none⟩).getD undef):=fun j hj=>by
  obtain⟨v,hv1,_⟩:=hcell (off+j) _ (bf (by omega));rw[d8,hv1];rfl
 refine⟨_,by simp only[execOp,ho,hp,Instr.loadAt,Instr.sureAddr,Sem.run_bind,Sem.run_pure,Result.andThen_ok,ed ht hm hall];rfl,pt (by simp;omega) fun i u hu=> ?_⟩
 have hi:i<m:=by
  have:=(ca.1 hu).1;simp at this;omega
 rw[List.getElem?_take,if_pos hi,List.getElem?_drop]at hu;obtain⟨v,hv1,hv2⟩:=hcell (off+i) u hu;rw[hv1];exact hv2
theorem aho{P:Program}{o:Oper}{ρ:Operand->PV}{σ:ASt}{t:TypeId}{y:Operand}{cs:List PV}{u:PV}(ho:o.op= .load t y)(hy:ρ y= .el cs)
  (ht:jt P t=some false) (hu:cs[0]? =some u):LOp P o ρ σ u [] []:=by
 refine ak fun s hs x a hv w hW hops=> ?_;have h:=hops y (by simp[ho,Op.operands]);rw[hy]at h;obtain⟨q,U,hq,ha,hr⟩:=h.el_inv;have hc:=(ha 0 u hu).1;rw[Addr.add_zero']at hc;refine⟨U 0,?_,.pure (hr 0 u hu)⟩;simp[execOp,ho,hq,Instr.loadAt,Instr.sureAddr,d7 ht hc]
theorem afk{P:Program}{o:Oper}{ρ:Operand->PV}{σ:ASt}{t:TypeId}{y:Operand}{m:Nat}{cs:List PV}(ho:o.op= .load t y)(hy:ρ y= .el cs)
  (ht:jt P t=some true) (hm:du P t=some m) (hle:m<=cs.length):LOp P o ρ σ (.agg (cs.take m)) [] []:=by
 refine ak fun s hs x a hv w hW hops=> ?_;have h:=hops y (by simp[ho,Op.operands]);rw[hy]at h;obtain⟨q,U,hq,ha,hr⟩:=h.el_inv;have hall: ∀j,j<m->w.cell? (q.add j)=some (U j):=fun j hj=>(ha j _ (bf (by omega))).1;refine⟨_,by simp only[execOp,ho,hq,Instr.loadAt,Instr.sureAddr,Sem.run_bind,Sem.run_pure,Result.andThen_ok,ed ht hm hall];rfl,pt (by simp;omega) fun i u hu=> ?_⟩
 have hi:i<m:=by
  have:=(ca.1 hu).1;simp at this;omega
 rw[List.getElem?_take,if_pos hi]at hu;exact .pure (hr i u hu)
theorem ac5{P:Program}{o:Oper}{ρ:Operand->PV}{σ:ASt}{t:TypeId}{y:Operand}{n k i off:Nat}{e sz:Nat}{sh:Bool}{xs:List (List PV)}{u:PV}(ho:o.op= .load t y)(hy:ρ y= .oel n k i off)
  (hB:ah σ n=some (.arr e sz sh xs)) (hk:k=xs.length) (hi:i<k) (ht:jt P t=some false) (hu:(xs.getD i [])[off]? =some u):LOp P o ρ σ u [] [n]:=by
 refine ak fun s hs x a hv w hW hops=> ?_;have h:=hops y (by simp[ho,Op.operands]);rw[hy]at h;have hsn:s n=some (.arr e sz sh xs):=by rw[hs n (by simp),hB]
 obtain⟨_,e',sz',sh',xs',h1,h2,h3⟩:=h.oel_arr hsn;rw[hsn]at h1
 cases h1
 obtain⟨b,c,hb,hp⟩:=h3 hk hi;obtain⟨g,c',hq,_,hcell⟩:=(hW.box n _ hsn).cellAt (by omega);rw[hb]at hq
 cases hq
 have hg:xs[i]? =some (xs.getD i []):=by rw[bq,bf (by omega)];rfl
 obtain⟨v,hv1,hv2⟩:=hcell i _ off u hg hu;refine⟨v,?_,.pure hv2⟩;simp[execOp,ho,hp,Instr.loadAt,Instr.sureAddr,d7 ht hv1]
theorem acf{P:Program}{o:Oper}{ρ:Operand->PV}{σ:ASt}{t:TypeId}{y:Operand}{n k i off m:Nat}{e sz:Nat}{sh:Bool}{xs:List (List PV)}(ho:o.op= .load t y)(hy:ρ y= .oel n k i off)
  (hB:ah σ n=some (.arr e sz sh xs)) (hk:k=xs.length) (hi:i<k) (ht:jt P t=some true) (hm:du P t=some m) (hle:off+m<=(xs.getD i []).length):
  LOp P o ρ σ (.agg (((xs.getD i []).drop off).take m)) [] [n]:=by
 refine ak fun s hs x a hv w hW hops=> ?_;have h:=hops y (by simp[ho,Op.operands]);rw[hy]at h;have hsn:s n=some (.arr e sz sh xs):=by rw[hs n (by simp),hB]
 obtain⟨_,e',sz',sh',xs',h1,h2,h3⟩:=h.oel_arr hsn;rw[hsn]at h1
 cases h1
 obtain⟨b,c,hb,hp⟩:=h3 hk hi;obtain⟨g,c',hq,_,hcell⟩:=(hW.box n _ hsn).cellAt (by omega);rw[hb]at hq
 cases hq
 have hg:xs[i]? =some (xs.getD i []):=by rw[bq,bf (by omega)];rfl
 have hall: ∀j,j<m->w.cell? ((⟨b,i*sz+off,none⟩:Addr).add j)=some ((w.cell? ⟨b,i*sz+(off+j),none⟩).getD undef):=fun j hj=>by
  obtain⟨v,hv1,_⟩:=hcell i _ (off+j) _ hg (bf (by omega));rw[d8,Nat.add_assoc,hv1];rfl
 refine⟨_,by simp only[execOp,ho,hp,Instr.loadAt,Instr.sureAddr,Sem.run_bind,Sem.run_pure,Result.andThen_ok,ed ht hm hall];rfl,pt (by rw[List.length_take,List.length_drop];omega) fun j u hu=> ?_⟩
 have hj:j<m:=by
  have:=(ca.1 hu).1;rw[List.length_take]at this;omega
 rw[List.getElem?_take,if_pos hj,List.getElem?_drop]at hu;obtain⟨v,hv1,hv2⟩:=hcell i _ (off+j) u hg hu;rw[hv1];exact .pure hv2
theorem abp{P:Program}{o:Oper}{ρ:Operand->PV}{σ:ASt}{t:TypeId}{y:Operand}{n k i off:Nat}{e sz:Nat}{xs:List (List PV)}{u:PV}(ho:o.op= .load t y)(hy:ρ y= .oel n k i off)
  (hB:ah σ n=some (.arh e sz xs)) (hk:k=xs.length) (hi:i<k) (ht:jt P t=some false) (hu:(xs.getD i [])[off]? =some u):LOp P o ρ σ u [] [n]:=by
 refine ak fun s hs x a hv w hW hops=> ?_;have h:=hops y (by simp[ho,Op.operands]);rw[hy]at h;have hsn:s n=some (.arh e sz xs):=by rw[hs n (by simp),hB]
 obtain⟨_,B',sz',l',h1,hd',h2,h3⟩:=h.oel_inv;rw[hsn]at h1
 cases h1
 cases hd'
 obtain⟨b,c,hb,hp⟩:=h3 hk hi;obtain⟨g,c',hq,_,hcell⟩:=(hW.box n _ hsn).cellAtH (by omega);rw[hb]at hq
 cases hq
 have hg:xs[i]? =some (xs.getD i []):=by rw[bq,bf (by omega)];rfl
 obtain⟨v,hv1,hv2⟩:=hcell i _ off u hg hu;refine⟨v,?_,hv2⟩;simp[execOp,ho,hp,Instr.loadAt,Instr.sureAddr,d7 ht hv1]
theorem ya{P:Program}{o:Oper}{ρ:Operand->PV}{σ:ASt}{t:TypeId}{y:Operand}{n k i off m:Nat}{e sz:Nat}{xs:List (List PV)}(ho:o.op= .load t y)(hy:ρ y= .oel n k i off)
  (hB:ah σ n=some (.arh e sz xs)) (hk:k=xs.length) (hi:i<k) (ht:jt P t=some true) (hm:du P t=some m) (hle:off+m<=(xs.getD i []).length):
  LOp P o ρ σ (.agg (((xs.getD i []).drop off).take m)) [] [n]:=by
 refine ak fun s hs x a hv w hW hops=> ?_;have h:=hops y (by simp[ho,Op.operands]);rw[hy]at h;have hsn:s n=some (.arh e sz xs):=by rw[hs n (by simp),hB]
 obtain⟨_,B',sz',l',h1,hd',h2,h3⟩:=h.oel_inv;rw[hsn]at h1
 cases h1
 cases hd'
 obtain⟨b,c,hb,hp⟩:=h3 hk hi;obtain⟨g,c',hq,_,hcell⟩:=(hW.box n _ hsn).cellAtH (by omega);rw[hb]at hq
 cases hq
 have hg:xs[i]? =some (xs.getD i []):=by rw[bq,bf (by omega)];rfl
 have hall: ∀j,j<m->w.cell? ((⟨b,i*sz+off,none⟩:Addr).add j)=some ((w.cell? ⟨b,i*sz+(off+j),none⟩).getD undef):=fun j hj=>by
  obtain⟨v,hv1,_⟩:=hcell i _ (off+j) _ hg (bf (by omega));rw[d8,Nat.add_assoc,hv1];rfl
 refine⟨_,by simp only[execOp,ho,hp,Instr.loadAt,Instr.sureAddr,Sem.run_bind,Sem.run_pure,Result.andThen_ok,ed ht hm hall];rfl,pt (by rw[List.length_take,List.length_drop];omega) fun j u hu=> ?_⟩
 have hj:j<m:=by
  have:=(ca.1 hu).1;rw[List.length_take]at this;omega
 rw[List.getElem?_take,if_pos hj,List.getElem?_drop]at hu;obtain⟨v,hv1,hv2⟩:=hcell i _ (off+j) u hg hu;rw[hv1];exact hv2
end Go.Proofs.Am

/- Operations on abstract values: numbers, strings, comparisons, conversions. -/
namespace Go.Proofs.Am
open Go Go.RowKit
variable {P:Program}
inductive CK where
 |int|str|bool
 deriving DecidableEq
def azb(P:Program)(t:TypeId):Option CK:=
 match P.underlying t with
 |some (.int _)=>some .int
 |some .string=>some .str
 |some .bool=>some .bool
 |_=>none
def m8(P:Program):Nat->List Field->Option (List CK)
 |_,[]=>some []
 |i,f::fs=>
  if f.name≠ "_" ∧f.offset=i then
   match azb P f.type,m8 P (i+1) fs with
   |some c,some r=>some (c::r)
   |_,_=>none
  else none
def lz(P:Program)(t:TypeId):Option (List CK):=
 match P.underlying t with
 |some (.struct fs)=>if P.stoodInHeld t=false/\P.eqGuardType P.depth t=false then m8 P 0 fs.toList else none
 |some (.array n e)=>if P.cellsOf e=1/\P.eqGuardType P.depth t=false/\(P.info? e).isSome=true then(azb P e).map (List.replicate n)else none
 |_=>none
def eqC:CK->PV->PV->Option Bool
 | .int,.int k a,.int k' b=>if k=k' then some (decide (a=b))else none
 | .str,.str a,.str b=>some (decide (a=b))
 | .bool,.bool a,.bool b=>some (decide (a=b))
 |_,_,_=>none
def w5:List CK->List PV->List PV->Option Bool
 |[],[],[]=>some true
 |c::ks,x::xs,y::ys=>
  match eqC c x y,w5 ks xs ys with
  |some a,some b=>some (a&&b)
  |_,_=>none
 |_,_,_=>none
theorem n5{α:Type} [DecidableEq α](a b:α):(a==b)=decide (a=b):=by
 by_cases h:a=b<;>simp[h]
theorem a5t(a b:List UInt8):(a==b)=decide (a=b):=by
 rw[Bool.eq_iff_iff];simp
theorem arw{P:Program}{E:Env}{t:TypeId}{c:CK}{x y:PV}{b:Bool}{v v':Value}(hc:azb P t=some c)(h:eqC c x y=some b)(hv:RV E v x)(hv':RV E v' y)(d:Nat)(w:World):
  (Op.equalIn (d+1) t v v').run P w= .ok b w:=by
 unfold azb at hc
 cases c<;>cases x<;>try (simp[eqC]at h;done)
 all_goals cases y<;>try (simp[eqC]at h;done)
 ·rw[hv.int_inv,hv'.int_inv];simp only[eqC]at h;split at h
  ·rename_i hk;subst hk;split at hc<;>try (simp at hc;done)
   rename_i hu;rw[run_equalIn_int w d t _ _ _ _ hu,n5];simpa using h
  ·cases h
 ·rw[hv.str_inv,hv'.str_inv];simp only[eqC,Option.some.injEq]at h;split at hc<;>try (simp at hc;done)
  rename_i hu;rw[run_equalIn_string w d t _ _ hu];subst h;simp[ByteArray.toList_eq,a5t]
 ·rw[hv.bool_inv,hv'.bool_inv];simp only[eqC,Option.some.injEq]at h;split at hc<;>try (simp at hc;done)
  rename_i hu;rw[run_equalIn_bool' w d t _ _ hu,n5];simpa using h
theorem uz{P:Program}{t:TypeId}{c:CK}(hc:azb P t=some c):jt P t=some false:=by
 unfold azb at hc;unfold jt;split at hc<;>(try (simp at hc;done))<;>rename_i hu<;>rw[hu]<;>rfl
theorem tk{P:Program}{E:Env}(d:Nat){xs ys:Array Value}{cs ds:List PV}(hx: ∀i u,cs[i]? =some u->RV E (xs.getD i undef) u)(hy: ∀i u,ds[i]? =some u->RV E (ys.getD i undef) u)
  (lx:xs.size=cs.length) (ly:ys.size=ds.length) (w:World): ∀(fs:List Field) (i:Nat) (ks:List CK) (b:Bool),m8 P i fs=some ks->w5 ks (cs.drop i) (ds.drop i)=some b->
  (Op.eqFields (d+1) xs ys fs).run P w= .ok b w
 |[],i,ks,b,hf,he=>by
  simp only[m8,Option.some.injEq]at hf;subst hf;simp only[Op.eqFields,Sem.run_pure];generalize cs.drop i=a at he;generalize ds.drop i=c at he
  cases a<;>cases c<;>simp[w5]at he
  simp[he]
 |f::fs,i,ks,b,hf,he=>by
  simp only[m8]at hf;split at hf
  ·rename_i hn
   cases h1:azb P f.type with
   |none=>rw[h1]at hf;simp at hf
   |some c=>
    cases h2:m8 P (i+1) fs with
    |none=>rw[h1,h2]at hf;simp at hf
    |some r=>
     rw[h1,h2]at hf;simp only[Option.some.injEq]at hf;subst hf
     cases h3:cs.drop i with
     |nil=>rw[h3]at he;simp[w5]at he
     |cons x cs'=>
      cases h4:ds.drop i with
      |nil=>rw[h3,h4]at he;simp[w5]at he
      |cons y ds'=>
       have hci:cs[i]? =some x:=by have:=List.getElem?_drop (xs:=cs) (i:=i) (j:=0);rw[h3]at this;simpa using this.symm
       have hdi:ds[i]? =some y:=by have:=List.getElem?_drop (xs:=ds) (i:=i) (j:=0);rw[h4]at this;simpa using this.symm
       have hcs:cs.drop (i+1)=cs':=by rw[<-List.drop_drop,h3];simp
       have hds:ds.drop (i+1)=ds':=by rw[<-List.drop_drop,h4];simp
       rw[h3,h4]at he;simp only[w5]at he
       cases h5:eqC c x y with
       |none=>rw[h5]at he;simp at he
       |some a=>
        cases h6:w5 r cs' ds' with
        |none=>rw[h5,h6]at he;simp at he
        |some b'=>
         rw[h5,h6]at he;simp only[Option.some.injEq]at he;subst he;have hxi:i<xs.size:=by rw[lx];exact(ca.1 hci).1
         have hyi:i<ys.size:=by rw[ly];exact(ca.1 hdi).1
         have px:(part f.type xs f.offset).run P w= .ok (xs.getD i undef) w:=by simp[part,jl (uz h1),hn.2,hxi]
         have py:(part f.type ys f.offset).run P w= .ok (ys.getD i undef) w:=by simp[part,jl (uz h1),hn.2,hyi]
         have he:=arw h1 h5 (hx i x hci) (hy i y hdi) d w;have ih:=tk d hx hy lx ly w fs (i+1) r b' h2 (by rw[hcs,hds];exact h6);simp only[Op.eqFields,hn.1,ne_eq,not_false_iff,if_true,Sem.run_bind,px,py,he,Result.andThen_ok,Sem.run_ite]
         cases a<;>simp[ih]
  ·cases hf
theorem tn{P:Program}{E:Env}(d:Nat){e:TypeId}{c:CK}(hc:azb P e=some c){xs ys:Array Value}{cs ds:List PV}(hx: ∀i u,cs[i]? =some u->RV E (xs.getD i undef) u)(hy: ∀i u,ds[i]? =some u->RV E (ys.getD i undef) u)
  (lx:xs.size=cs.length) (ly:ys.size=ds.length) (w:World): ∀(k i:Nat) (b:Bool),w5 (List.replicate k c) (cs.drop i) (ds.drop i)=some b->
  (Op.eqItems (d+1) e 1 xs ys (List.range' i k)).run P w= .ok b w
 |0,i,b,he=>by
  generalize cs.drop i=a at he;generalize ds.drop i=c at he
  cases a<;>cases c<;>simp[w5]at he
  simp[he,Op.eqItems]
 |k+1,i,b,he=>by
  rw[List.replicate_succ]at he
  cases h3:cs.drop i with
  |nil=>rw[h3]at he;simp[w5]at he
  |cons x cs'=>
   cases h4:ds.drop i with
   |nil=>rw[h3,h4]at he;simp[w5]at he
   |cons y ds'=>
    have hci:cs[i]? =some x:=by have:=List.getElem?_drop (xs:=cs) (i:=i) (j:=0);rw[h3]at this;simpa using this.symm
    have hdi:ds[i]? =some y:=by have:=List.getElem?_drop (xs:=ds) (i:=i) (j:=0);rw[h4]at this;simpa using this.symm
    have hcs:cs.drop (i+1)=cs':=by rw[<-List.drop_drop,h3];simp
    have hds:ds.drop (i+1)=ds':=by rw[<-List.drop_drop,h4];simp
    rw[h3,h4]at he;simp only[w5]at he
    cases h5:eqC c x y with
    |none=>rw[h5]at he;simp at he
    |some a=>
     cases h6:w5 (List.replicate k c) cs' ds' with
     |none=>rw[h5,h6]at he;simp at he
     |some b'=>
      rw[h5,h6]at he;simp only[Option.some.injEq]at he;subst he;have hxi:i<xs.size:=by rw[lx];exact(ca.1 hci).1
      have hyi:i<ys.size:=by rw[ly];exact(ca.1 hdi).1
      have px:(part e xs (i*1)).run P w= .ok (xs.getD i undef) w:=by simp[part,jl (uz hc),hxi]
      have py:(part e ys (i*1)).run P w= .ok (ys.getD i undef) w:=by simp[part,jl (uz hc),hyi]
      have he:=arw hc h5 (hx i x hci) (hy i y hdi) d w;have ih:=tn d hc hx hy lx ly w k (i+1) b' (by rw[hcs,hds];exact h6);rw[List.range'_succ];simp only[Op.eqItems,Sem.run_bind,px,py,he,Result.andThen_ok,Sem.run_ite]
      cases a<;>simp[ih]
theorem adm{P:Program}{E:Env}{t:TypeId}{ks:List CK}{cs ds:List PV}{b:Bool}{v v':Value}(hk:lz P t=some ks)(h:w5 ks cs ds=some b)(hv:RV E v (.agg cs))(hv':RV E v' (.agg ds))
  (x y:Operand) (w:World):(do eqGuard .eql t x y v v';binOp .eql t v v').run P w= .ok (.bool b) w/\(do eqGuard .neq t x y v v';binOp .neq t v v').run P w= .ok (.bool (!b)) w:=by
 obtain⟨xs,rfl,lx,hx⟩:=hv.agg_inv;obtain⟨ys,rfl,ly,hy⟩:=hv'.agg_inv;unfold lz at hk;split at hk
 ·rename_i fs hu;split at hk
  ·rename_i hh;have hfo:P.fieldsOf t=fs:=by unfold Program.fieldsOf;rw[hu]
   have hr:=tk (P:=P) 9998 hx hy lx ly w fs.toList 0 ks b hk (by simpa using h)
   have he:(Op.equalIn 10000 t (.agg xs) (.agg ys)).run P w= .ok b w:=by
    rw[run_equalIn_struct w 9999 t xs ys (by rw[hfo];exact hu) hh.1,hfo];exact hr
   constructor
   ·simp only[Sem.run_bind,run_eqGuard_agg w _ t x y xs ys hh.2,Result.andThen_ok,run_eql_struct,he]
   ·simp only[Sem.run_bind,run_eqGuard_agg w _ t x y xs ys hh.2,Result.andThen_ok,run_neq_struct,he]
  ·cases hk
 ·rename_i n e hu;split at hk
  ·rename_i hh
   cases hc:azb P e with
   |none=>rw[hc]at hk;cases hk
   |some c=>
    rw[hc]at hk;simp only[Option.map_some,Option.some.injEq]at hk;subst hk;obtain⟨inf,hi⟩:=Option.isSome_iff_exists.1 hh.2.2;have hr:=tn (P:=P) 9998 hc hx hy lx ly w n 0 b (by simpa using h)
    have he:(Op.equalIn 10000 t (.agg xs) (.agg ys)).run P w= .ok b w:=by
     rw[run_equalIn_array w 9999 xs ys hu hi,hh.1,List.range_eq_range'];exact hr
    constructor
    ·simp only[Sem.run_bind,run_eqGuard_agg w _ t x y xs ys hh.2.1,Result.andThen_ok,run_eql_struct,he]
    ·simp only[Sem.run_bind,run_eqGuard_agg w _ t x y xs ys hh.2.1,Result.andThen_ok,run_neq_struct,he]
  ·cases hk
 ·cases hk
def fl(P:Program)(op:BinOp)(t:TypeId)(u v:PV)(K:PV->Prop):Prop:=
 match u,v with
 | .int k a,.int k' b=>
  match op with
  | .shl=>0<=b/\K (.int k (k.wrap (a*2^min b.toNat k.bits)))
  | .shr=>0<=b/\K (.int k (a.fdiv (2^min b.toNat k.bits)))
  | .add=>k=k'/\K (.int k (k.wrap (a+b)))
  | .sub=>k=k'/\K (.int k (k.wrap (a - b)))
  | .mul=>k=k'/\K (.int k (k.wrap (a*b)))
  | .quo=>k=k'/\b≠0/\K (.int k (k.wrap (a.tdiv b)))
  | .rem=>k=k'/\b≠0/\K (.int k (a.tmod b))
  | .and| .or| .xor| .andNot=>k=k'/\K (.int k (bits op k a b))
  | .eql=>k=k'/\K (.bool (decide (a=b)))
  | .neq=>k=k'/\K (.bool (decide (a≠b)))
  | .lss=>k=k'/\K (.bool (decide (a<b)))
  | .leq=>k=k'/\K (.bool (decide (a<=b)))
  | .gtr=>k=k'/\K (.bool (decide (b<a)))
  | .geq=>k=k'/\K (.bool (decide (b<=a)))
 | .bool a,.bool b=>
  match op with
  | .eql=>(P.underlying t=some .bool)/\K (.bool (decide (a=b)))
  | .neq=>(P.underlying t=some .bool)/\K (.bool (decide (a≠b)))
  |_=>False
 | .str a,.str b=>
  match op with
  | .add=>a.length+b.length<=4611686018427387904/\K (.str (a++b))
  | .eql=>K (.bool (decide (a=b)))
  | .neq=>K (.bool (decide (a≠b)))
  | .lss=>K (.bool (Op.bytesLess a b))
  | .leq=>K (.bool (Op.bytesLess a b||decide (a=b)))
  | .gtr=>K (.bool (!(Op.bytesLess a b||decide (a=b))))
  | .geq=>K (.bool (!Op.bytesLess a b))
  |_=>False
 | .agg cs,.agg ds=>
  match lz P t with
  |some ks=>
   match w5 ks cs ds with
   |some b=>(match op with| .eql=>K (.bool b)| .neq=>K (.bool (!b))|_=>False)
   |none=>False
  |none=>False
 | .sn b,.nils=>(br P t).isSome=true/\(match op with| .eql=>K (.bool b)| .neq=>K (.bool (!b))|_=>False)
 | .nils,.nils=>(br P t).isSome=true/\(match op with| .eql=>K (.bool true)| .neq=>K (.bool false)|_=>False)
 | .vs xs,.nils=>((br P t).isSome=true/\0<xs.length)/\(match op with| .eql=>K (.bool false)| .neq=>K (.bool true)|_=>False)
 |_,_=>False
theorem j4(l:List UInt8):(⟨l.toArray⟩:ByteArray).size=l.length:=by simp[ByteArray.size]
theorem ar4(a b:List UInt8):(⟨a.toArray⟩++⟨b.toArray⟩:ByteArray)=⟨(a++b).toArray⟩:=by
 apply ByteArray.ext;simp[ByteArray.data_append]
theorem ayy{E:Env}{v:Value}{b:Bool}(h:RV E v (.sn b)): ∃a n c,v= .slice a n c/\a.isNone=b:=by
 cases h with
 |pure h=>cases h with
  |sn b c h=>exact⟨_,_,_,rfl,h⟩
theorem avw{E:Env}{v:Value}{xs:List (List PV)}(h:RV E v (.vs xs))(h0:0<xs.length): ∃a n c,v= .slice a n c/\a.isNone=false:=by
 obtain⟨a,c,sz,U,q1,_,_,_,q2,_⟩:=h.vs_inv.vs_inv;obtain⟨ad,q3,_⟩:=q2 h0;exact⟨a,xs.length,c,q1,by rw[q3];rfl⟩
theorem vu{P:Program}{t e:TypeId}(he:br P t=some e){v v':Value}{b:Bool}(h: ∃a n c,v= .slice a n c/\a.isNone=b)(h':v'= .slice none 0 0)(x y:Operand)(w:World):
  (do eqGuard .eql t x y v v';binOp .eql t v v').run P w= .ok (.bool b) w/\(do eqGuard .neq t x y v v';binOp .neq t v v').run P w= .ok (.bool (!b)) w:=by
 obtain⟨a,n,c,rfl,hb⟩:=h;subst h'
 have heq:(Op.equal t (.slice a n c) (.slice none 0 0)).run P w= .ok b w:=by
  unfold Op.equal Op.maxDepth;rw[Op.equalIn];rw[Sem.run_bind,run_underlying (az he),Result.andThen_ok]
  cases a with
  |none=>simp only;simp at hb;simp[hb]
  |some q=>simp only;simp at hb;simp[hb]
 constructor
 ·have:eqGuard .eql t x y (.slice a n c) (.slice none 0 0)=pure ():=by simp[eqGuard]
  rw[this,pure_bind];show(do pure (Value.bool (<-Op.equal t (.slice a n c) (.slice none 0 0)))).run P w=_;rw[Sem.run_bind,heq];rfl
 ·have:eqGuard .neq t x y (.slice a n c) (.slice none 0 0)=pure ():=by simp[eqGuard]
  rw[this,pure_bind];show(do pure (Value.bool (!(<-Op.equal t (.slice a n c) (.slice none 0 0))))).run P w=_;rw[Sem.run_bind,heq];rfl
theorem ag2{P:Program}{o:Oper}{ρ:Operand->PV}{σ:ASt}{op:BinOp}{t t':TypeId}{y z:Operand}(ho:o.op= .binOp op t y z t'){K:PV->Prop}(h:fl P op t (ρ y) (ρ z) K):
  ∃u,LOp P o ρ σ u [] []/\K u:=by
 have go: ∀(u:PV),(∀(E:Env) (v v':Value),RV E v (ρ y)->RV E v' (ρ z)->∀w,∃r,(do eqGuard op t y z v v';binOp op t v v').run P w= .ok r w/\RV E r u)->LOp P o ρ σ u [] []:=fun u hu=>by
  refine ak fun s hs x a hv w hW hops=> ?_;obtain⟨r,h1,h2⟩:=hu _ _ _ (hops y (by simp[ho,Op.operands])) (hops z (by simp[ho,Op.operands])) w;refine⟨r,?_,h2⟩;simp only[execOp,ho];rw[Sem.run_bind,h1];rfl
 unfold fl at h;split at h
 ·rename_i k a k' b hy hz
  have fin: ∀r,(∀v v' w,v= .int k a->v'= .int k' b->(binOp op t v v').run P w= .ok r w)->∀u,(∀E,RV E r u)->LOp P o ρ σ u [] []:=fun r hr u hu=>
   go u fun E v v' h1 h2 w=>by
    rw[hy]at h1;rw[hz]at h2;refine⟨r,?_,hu E⟩;rw[h1.int_inv,eqGuard_at_int,Sem.run_bind,Sem.run_pure,Result.andThen_ok];exact hr _ _ w rfl h2.int_inv
  cases op<;>simp only at h
  case shl=>exact⟨_,fin (.int k (k.wrap (a*2^min b.toNat k.bits))) (by rintro _ _ w rfl rfl;have:=h.1;simp only[binOp_shl,Op.shift];rw[if_neg (by omega)];rfl) _ (fun E=> .pure (.int _ _)),h.2⟩
  case shr=>exact⟨_,fin (.int k (a.fdiv (2^min b.toNat k.bits))) (by rintro _ _ w rfl rfl;have:=h.1;simp only[binOp_shr,Op.shift];rw[if_neg (by omega)];rfl) _ (fun E=> .pure (.int _ _)),h.2⟩
  case quo=>obtain⟨rfl,h0,h⟩:=h;exact⟨_,fin _ (by rintro _ _ w rfl rfl;simp only[binOp_quo,Op.intDiv];rw[if_neg h0];rfl) _ (fun E=> .pure (.int _ _)),h⟩
  case rem=>obtain⟨rfl,h0,h⟩:=h;exact⟨_,fin _ (by rintro _ _ w rfl rfl;simp only[binOp_rem,Op.intDiv];rw[if_neg h0];rfl) _ (fun E=> .pure (.int _ _)),h⟩
  case add=>obtain⟨rfl,h⟩:=h;exact⟨_,fin _ (by rintro _ _ w rfl rfl;simp only[binOp_add];rfl) _ (fun E=> .pure (.int _ _)),h⟩
  case sub=>obtain⟨rfl,h⟩:=h;exact⟨_,fin _ (by rintro _ _ w rfl rfl;simp only[binOp_sub];rfl) _ (fun E=> .pure (.int _ _)),h⟩
  case mul=>obtain⟨rfl,h⟩:=h;exact⟨_,fin _ (by rintro _ _ w rfl rfl;simp only[binOp_mul];rfl) _ (fun E=> .pure (.int _ _)),h⟩
  case and=>obtain⟨rfl,h⟩:=h;exact⟨_,fin _ (by rintro _ _ w rfl rfl;simp only[binOp_and];rfl) _ (fun E=> .pure (.int _ _)),h⟩
  case or=>obtain⟨rfl,h⟩:=h;exact⟨_,fin _ (by rintro _ _ w rfl rfl;simp only[binOp_or];rfl) _ (fun E=> .pure (.int _ _)),h⟩
  case xor=>obtain⟨rfl,h⟩:=h;exact⟨_,fin _ (by rintro _ _ w rfl rfl;simp only[binOp_xor];rfl) _ (fun E=> .pure (.int _ _)),h⟩
  case andNot=>obtain⟨rfl,h⟩:=h;exact⟨_,fin _ (by rintro _ _ w rfl rfl;simp only[binOp_andNot];rfl) _ (fun E=> .pure (.int _ _)),h⟩
  case eql=>obtain⟨rfl,h⟩:=h;exact⟨_,fin (.bool (decide (a=b))) (by rintro _ _ w rfl rfl;simp only[binOp_eql];rw[n5];rfl) _ (fun E=> .pure (.bool _)),h⟩
  case neq=>obtain⟨rfl,h⟩:=h;exact⟨_,fin (.bool (decide (a≠b))) (by rintro _ _ w rfl rfl;simp only[binOp_neq,bne];rw[n5];simp) _ (fun E=> .pure (.bool _)),h⟩
  case lss=>obtain⟨rfl,h⟩:=h;exact⟨_,fin (.bool (decide (a<b))) (by rintro _ _ w rfl rfl;simp only[binOp_lss];rfl) _ (fun E=> .pure (.bool _)),h⟩
  case leq=>obtain⟨rfl,h⟩:=h;exact⟨_,fin (.bool (decide (a<=b))) (by rintro _ _ w rfl rfl;simp only[binOp_leq];rfl) _ (fun E=> .pure (.bool _)),h⟩
  case gtr=>obtain⟨rfl,h⟩:=h;exact⟨_,fin (.bool (decide (b<a))) (by rintro _ _ w rfl rfl;simp only[binOp_gtr];rfl) _ (fun E=> .pure (.bool _)),h⟩
  case geq=>obtain⟨rfl,h⟩:=h;exact⟨_,fin (.bool (decide (b<=a))) (by rintro _ _ w rfl rfl;simp only[binOp_geq];rfl) _ (fun E=> .pure (.bool _)),h⟩
 ·rename_i a b hy hz
  have fin: ∀r,(∀v v' w,v= .bool a->v'= .bool b->(binOp op t v v').run P w= .ok r w)->∀u,(∀E,RV E r u)->LOp P o ρ σ u [] []:=fun r hr u hu=>
   go u fun E v v' h1 h2 w=>by
    rw[hy]at h1;rw[hz]at h2;refine⟨r,?_,hu E⟩;rw[h1.bool_inv,eqGuard_at_bool,Sem.run_bind,Sem.run_pure,Result.andThen_ok];exact hr _ _ w rfl h2.bool_inv
  cases op<;>simp only at h
  case eql=>exact⟨_,fin (.bool (decide (a=b))) (by rintro _ _ w rfl rfl;simp only[binOp,Op.equal,Op.maxDepth];rw[Sem.run_bind,run_equalIn_bool' w 9999 t a b h.1,n5];rfl) _ (fun E=> .pure (.bool _)),h.2⟩
  case neq=>exact⟨_,fin (.bool (decide (a≠b))) (by rintro _ _ w rfl rfl;simp only[binOp,Op.equal,Op.maxDepth];rw[Sem.run_bind,run_equalIn_bool' w 9999 t a b h.1,n5];simp) _ (fun E=> .pure (.bool _)),h.2⟩
 ·rename_i a b hy hz
  have fin: ∀r,(∀v v' w,v= .string ⟨a.toArray⟩->v'= .string ⟨b.toArray⟩->(binOp op t v v').run P w= .ok r w)->∀u,(∀E,RV E r u)->LOp P o ρ σ u [] []:=fun r hr u hu=>
   go u fun E v v' h1 h2 w=>by
    rw[hy]at h1;rw[hz]at h2;refine⟨r,?_,hu E⟩;rw[h1.str_inv,eqGuard_at_string,Sem.run_bind,Sem.run_pure,Result.andThen_ok];exact hr _ _ w rfl h2.str_inv
  cases op<;>simp only at h
  case add=>exact⟨_,fin (.string ⟨(a++b).toArray⟩) (by
   rintro _ _ w rfl rfl;simp only[binOp,Op.stringOp];rw[if_neg (by rw[j4,j4];have:=h.1;simp;omega),ar4];rfl) _ (fun E=> .pure (.str _)),h.2⟩
  case eql=>exact⟨_,fin (.bool (decide (a=b))) (by rintro _ _ w rfl rfl;simp[binOp,Op.stringOp,ByteArray.toList_eq,a5t]) _ (fun E=> .pure (.bool _)),h⟩
  case neq=>exact⟨_,fin (.bool (decide (a≠b))) (by rintro _ _ w rfl rfl;simp[binOp,Op.stringOp,ByteArray.toList_eq,a5t]) _ (fun E=> .pure (.bool _)),h⟩
  case lss=>exact⟨_,fin (.bool (Op.bytesLess a b)) (by rintro _ _ w rfl rfl;simp[binOp,Op.stringOp,ByteArray.toList_eq]) _ (fun E=> .pure (.bool _)),h⟩
  case leq=>exact⟨_,fin (.bool (Op.bytesLess a b||decide (a=b))) (by rintro _ _ w rfl rfl;simp[binOp,Op.stringOp,ByteArray.toList_eq,a5t]) _ (fun E=> .pure (.bool _)),h⟩
  case gtr=>exact⟨_,fin (.bool (!(Op.bytesLess a b||decide (a=b)))) (by rintro _ _ w rfl rfl;simp[binOp,Op.stringOp,ByteArray.toList_eq,a5t]) _ (fun E=> .pure (.bool _)),h⟩
  case geq=>exact⟨_,fin (.bool (!Op.bytesLess a b)) (by rintro _ _ w rfl rfl;simp[binOp,Op.stringOp,ByteArray.toList_eq]) _ (fun E=> .pure (.bool _)),h⟩
 ·rename_i cs ds hy hz;split at h
  ·rename_i ks hk;split at h
   ·rename_i b hb
    cases op<;>simp only at h
    case eql=>exact⟨_,go (.bool b) fun E v v' h1 h2 w=>⟨_,(adm hk hb (hy ▸ h1) (hz ▸ h2) y z w).1,.pure (.bool _)⟩,h⟩
    case neq=>exact⟨_,go (.bool (!b)) fun E v v' h1 h2 w=>⟨_,(adm hk hb (hy ▸ h1) (hz ▸ h2) y z w).2,.pure (.bool _)⟩,h⟩
   ·exact h.elim
  ·exact h.elim
 ·rename_i b hy hz;obtain⟨h1,h⟩:=h;obtain⟨e,he⟩:=Option.isSome_iff_exists.1 h1
  have fin:=fun(E:Env) (v v':Value) (k1:RV E v (ρ y)) (k2:RV E v' (ρ z)) (w:World)=>by
   rw[hy]at k1;rw[hz]at k2;exact vu he (ayy k1) k2.nils_inv y z w
  cases op<;>simp only at h
  case eql=>exact⟨_,go (.bool b) fun E v v' k1 k2 w=>⟨_,(fin E v v' k1 k2 w).1,.pure (.bool _)⟩,h⟩
  case neq=>exact⟨_,go (.bool (!b)) fun E v v' k1 k2 w=>⟨_,(fin E v v' k1 k2 w).2,.pure (.bool _)⟩,h⟩
 ·rename_i hy hz;obtain⟨h1,h⟩:=h;obtain⟨e,he⟩:=Option.isSome_iff_exists.1 h1
  have fin:=fun(E:Env) (v v':Value) (k1:RV E v (ρ y)) (k2:RV E v' (ρ z)) (w:World)=>by
   rw[hy]at k1;rw[hz]at k2;exact vu he (b:=true) ⟨none,0,0,k1.nils_inv,rfl⟩ k2.nils_inv y z w
  cases op<;>simp only at h
  case eql=>exact⟨_,go (.bool true) fun E v v' k1 k2 w=>⟨_,(fin E v v' k1 k2 w).1,.pure (.bool _)⟩,h⟩
  case neq=>exact⟨_,go (.bool false) fun E v v' k1 k2 w=>⟨_,(fin E v v' k1 k2 w).2,.pure (.bool _)⟩,h⟩
 ·rename_i xs hy hz;obtain⟨⟨h1,h0⟩,h⟩:=h;obtain⟨e,he⟩:=Option.isSome_iff_exists.1 h1
  have fin:=fun(E:Env) (v v':Value) (k1:RV E v (ρ y)) (k2:RV E v' (ρ z)) (w:World)=>by
   rw[hy]at k1;rw[hz]at k2;exact vu he (avw k1 h0) k2.nils_inv y z w
  cases op<;>simp only at h
  case eql=>exact⟨_,go (.bool false) fun E v v' k1 k2 w=>⟨_,(fin E v v' k1 k2 w).1,.pure (.bool _)⟩,h⟩
  case neq=>exact⟨_,go (.bool true) fun E v v' k1 k2 w=>⟨_,(fin E v v' k1 k2 w).2,.pure (.bool _)⟩,h⟩
 ·exact h.elim
def a2f(op:UnOp)(u:PV)(K:PV->Prop):Prop:=
 match op,u with
 | .not,.bool b=>K (.bool (!b))
 | .neg,.int k n=>K (.int k (k.wrap (0 - n)))
 | .xor,.int k n=>K (.int k (bits .xor k (if k.signed then -1 else k.max) n))
 |_,_=>False
theorem al7{P:Program}{o:Oper}{ρ:Operand->PV}{σ:ASt}{op:UnOp}{t:TypeId}{y:Operand}(ho:o.op= .unOp op t y){K:PV->Prop}(h:a2f op (ρ y) K): ∃u,LOp P o ρ σ u [] []/\K u:=by
 have go: ∀(u:PV),(∀(E:Env) (v:Value),RV E v (ρ y)->∀w,∃r,(Op.unary op v).run P w= .ok r w/\RV E r u)->LOp P o ρ σ u [] []:=fun u hu=>by
  refine ak fun s hs x a hv w hW hops=> ?_;obtain⟨r,h1,h2⟩:=hu _ _ (hops y (by simp[ho,Op.operands])) w;refine⟨r,?_,h2⟩;simp only[execOp,ho];rw[Sem.run_bind,h1];rfl
 unfold a2f at h;split at h
 ·rename_i b hy;exact⟨_,go (.bool (!b)) fun E v h1 w=>⟨_,by rw[hy]at h1;rw[h1.bool_inv];rfl,.pure (.bool _)⟩,h⟩
 ·rename_i k n hy;exact⟨_,go _ fun E v h1 w=>⟨_,by rw[hy]at h1;rw[h1.int_inv];rfl,.pure (.int _ _)⟩,h⟩
 ·rename_i k n hy;exact⟨_,go _ fun E v h1 w=>⟨_,by rw[hy]at h1;rw[h1.int_inv];rfl,.pure (.int _ _)⟩,h⟩
 ·exact h.elim
end Go.Proofs.Am

/- append onto a slice of the call's own: what becomes of the world. -/
namespace Go.Proofs.Am
open Go Go.RowKit
variable {P:Program}
structure Src(P:Program)(w:World)(size:Nat)(x:Value)(m:Nat)(news:List Value):Prop where
 len: ∀w',(Builtin.lenOf x).run P w'= .ok m w'
 cells:(Builtin.firstCells size m x).run P w= .ok news.toArray w
 cells':(Builtin.firstCells size m x).run P w.drew= .ok news.toArray w.drew
 length:news.length=m*size
 one: ∀u∈news,u.oneCell'=true
theorem jo{P:Program}(t tx ty e:TypeId)(d:TypeDesc)(size:Nat)(ht:P.underlying t=some (.slice e))(htx:P.underlying tx=some d)(hd: ∀k,d≠ .int k)
  (hsz:du P e=some size) (a:Option Addr) (n c:Nat) (x:Value) (m:Nat) (w:World) (hlen: ∀w',(Builtin.lenOf x).run P w'= .ok m w') (h:n+m<=c):
  (Builtin.append_ #[t,tx] ty #[.slice a n c,x]).run P w=
   ((Builtin.firstCells size m x).run P w).andThen fun new w=>((match a with|some a=>storeCells (a.add (n*size)) new.toList|none=>pure ()).run P w).andThen fun _ w=> .ok (.slice a (n+m) c) w:=by
 have hz1:(match d with| .int _=>true|_=>false)=false:=by cases d<;>first|rfl|exact absurd rfl (hd _)
 simp only[Builtin.append_,List.getElem?_toArray,List.getElem?_cons_zero,List.getElem?_cons_succ,Sem.run_bind,run_underlying ht,Result.andThen_ok,dq hsz,run_underlying htx,Sem.run_pure,Bool.false_eq_true,if_false,hlen];rw[if_pos h]
 cases a<;>simp[Sem.run_bind]
theorem jc{P:Program}(t tx ty e:TypeId)(d:TypeDesc)(i:TypeInfo)(size:Nat)(ht:P.underlying t=some (.slice e))(htx:P.underlying tx=some d)(hd: ∀k,d≠ .int k)
  (hsz:du P e=some size) (hi:P.info? e=some i) (a:Option Addr) (n c:Nat) (x:Value) (m:Nat) (w:World) (hlen: ∀w',(Builtin.lenOf x).run P w'= .ok m w') (h: ¬n+m<=c)
  (hmi: ¬((9223372036854775807:Int)<(n:Int)+(m:Int))) (h48: ¬(Builtin.nextslicecap (n+m) c*i.bytes>2^48)):
  (Builtin.append_ #[t,tx] ty #[.slice a n c,x]).run P w=
   ((do
    let newCap<-choose (.appendCap (n+m) c e)
    askRoom (newCap*i.bytes)
    let old<-Builtin.firstCells size n (.slice a n c)
    let new<-Builtin.firstCells size m x
    let rest:=Builtin.zeroCells (<-zeroValue e).cells (newCap - (n+m))
    pure (.slice (some (<-newRow e (old++new++rest))) (n+m) newCap):Sem Value).run P w):=by
 have hz1:(match d with| .int _=>true|_=>false)=false:=by cases d<;>first|rfl|exact absurd rfl (hd _)
 simp only[Builtin.append_,List.getElem?_toArray,List.getElem?_cons_zero,List.getElem?_cons_succ,Sem.run_bind,run_underlying ht,Result.andThen_ok,dq hsz,run_underlying htx,Sem.run_pure,Bool.false_eq_true,if_false,hlen];rw[if_neg h];simp[Sem.run_bind,typeInfo,hi,hmi,h48]
theorem bx(P:Program)(g o:Nat)(t:TypeId)(fz:Nat×Nat): ∀(vs:List Value) (i:Nat) (cur:Array Value) (w:World),w.heap[g]? =some (.cells cur t fz)->(fz.2=0\/cur.size<=fz.1)->o+i+vs.length<=cur.size->(∀v∈vs,v.oneCell'=true)->
  (storeCells ⟨g,o,none⟩ vs i).run P w= .ok () (w.setRow g (cur.toList.take (o+i)++vs++cur.toList.drop (o+i+vs.length)).toArray)
 |[],i,cur,w,hg,_,_,_=>by
  simp only[storeCells,List.append_nil,List.length_nil,Nat.add_zero,List.take_append_drop,Array.toArray_toList];rw[setRow_self w g cur t fz hg]
  rfl
 |v::rest,i,cur,w,hg,hfz,hl,h1=>by
  have hi:o+i<cur.size:=by simp at hl;omega
  have hadd:(⟨g,o,none⟩:Addr).add i=⟨g,o+i,none⟩:=by unfold Addr.add;split<;>simp_all
  have hcell:w.cell? ⟨g,o+i,none⟩=some cur[o+i]:=by simp[World.cell?,hg,hi]
  have hfro:w.frozen? ⟨g,o+i,none⟩=false:=by
   obtain⟨lo,hi'⟩:=fz;simp only[World.frozen?,hg,Bool.and_eq_false_iff,decide_eq_false_iff_not];simp only at hfz;omega
  have hst:(store ((⟨g,o,none⟩:Addr).add i) v).run P w= .ok () (w.setRow g (cur.setIfInBounds (o+i) v)):=by
   rw[hadd,run_store P w _ v _ (h1 v (by simp)),hcell];simp[hfro,setCell_eq_setRow w g (o+i) cur t fz v hg]
  have ih:=bx P g o t fz rest (i+1) (cur.setIfInBounds (o+i) v) (w.setRow g (cur.setIfInBounds (o+i) v)) (setRow_heap w g cur _ t _ hg) (by simpa using hfz) (by simp at hl ⊢;omega) (fun x hx=>h1 x (by simp[hx]));simp only[storeCells,Sem.run_bind,hst,Result.andThen_ok,ih,setRow_setRow];congr 3;have e:=list_seg_step cur.toList (o+i) v rest (by simp at hl ⊢;omega);simpa [Array.toList_setIfInBounds,Nat.add_assoc] using e
theorem al8{P:Program}{w:World}(t tx ty e:TypeId)(d:TypeDesc)(i:TypeInfo)(z:Value)(size bytes:Nat)(ht:P.underlying t=some (.slice e))(htx:P.underlying tx=some d)(hd: ∀k,d≠ .int k)
  (hi:P.info? e=some i) (hz:i.zero=some z) (hsize:i.size=size) (hby:i.bytes=bytes) (hzs:z.cells.size=size) (hsz:0<size) (hbp:0<bytes)
  (v:Value) (n:Nat) (xs:List Value) (hown:OwnM P w e size v n xs) (x:Value) (m:Nat) (news:List Value) (hs:Src P w size x m news) (hbytes:(n+m)*bytes<=140737488355328):
  ∃v' w',(Builtin.append_ #[t,tx] ty #[v,x]).run P w= .ok v' w'/\OwnM P w' e size v' (n+m) (xs++news)/\w.grownBy w' v.ownBlock/\
   (blk v'=blk v\/∃b,blk v'=some b/\w.heap.size<=b)/\(m=0->v'=v)/\
   ∀b j u,blk v=some b->j<n*size->w.cell? ⟨b,j,none⟩=some u->w'.cell? ⟨b,j,none⟩=some u:=by
 subst hsize;subst hby;have hnm:n+m<=140737488355328:=Nat.le_trans (Nat.le_mul_of_pos_right _ hbp) hbytes;have h63:n+m<=maxLen:=by simp only[maxLen];omega
 have hso:du P e=some i.size:=by simp[du,hi]
 have hop:=fun a n c=>jo t tx ty e d i.size ht htx hd hso a n c x m w hs.len;have hgw:=fun a n c=>jc t tx ty e d i i.size ht htx hd hso hi a n c x m w hs.len;have hlen:(xs++news).length=(n+m)*i.size:=by rw[List.length_append,hown.1,hs.length,Nat.add_mul]
 have grown: ∀(old:Nat),old<n+m->∀(row:Option Nat),
   OwnM P (w.drew.alloc (.cells (xs.toArray++news.toArray++Builtin.zeroCells z.cells (grownCap w (n+m) old e - (n+m))) e)) e i.size
    (.slice (some ⟨w.heap.size,0,none⟩) (n+m) (grownCap w (n+m) old e)) (n+m) (xs++news)/\
   w.grownBy (w.drew.alloc (.cells (xs.toArray++news.toArray++Builtin.zeroCells z.cells (grownCap w (n+m) old e - (n+m))) e)) row:=by
  intro old ho row;have hge:=grownCap_ge w (n+m) old e;have hcm:grownCap w (n+m) old e<=maxLen:=grownCap_le_maxLen w (n+m) old e h63;refine⟨⟨hlen,.inr ⟨w.heap.size,_,_,(0,0),rfl,.inl rfl,heap_alloc_new w.drew _,hge,hcm,?_,?_⟩⟩,⟨rfl,rfl,rfl,by simp,fun k hk _=>heap_alloc_old w.drew _ k hk⟩⟩
  ·simp only[Array.size_append,List.size_toArray,size_zeroCells,hzs,hown.1,hs.length,<-Nat.add_mul];congr 1;omega
  ·simp only[Array.toList_append,List.append_assoc];rw[<-List.append_assoc,<-hlen];exact List.take_left
 have hnz: ¬(((n+m:Nat):Int)>IntKind.i64.max/\(false=true\/i.bytes=0)):=by simp;omega
 rcases hown.2 with ⟨rfl,rfl⟩|⟨g,cap,cur,fz,rfl,hfz,hg,hnc,hcm,hcs,htake⟩
 ·have hx:xs=[]:=List.eq_nil_of_length_eq_zero (by simpa using hown.1);subst hx;by_cases hm:m=0
  ·subst hm;have hn:news=[]:=List.eq_nil_of_length_eq_zero (by simpa using hs.length);subst hn;refine⟨.slice none 0 0,w,?_,OwnM.nil P w e i.size,⟨rfl,rfl,rfl,Nat.le_refl _,fun _ _ _=>rfl⟩,.inl rfl,fun _=>rfl,fun b j u hb=>by cases hb⟩;have hc:=hs.cells;rw[hop _ _ _ (Nat.le_refl _),hc];rfl
  ·have hg0: ¬(0+m<=0):=by omega
   have hgr:=grown 0 (by omega) (Value.ownBlock (.slice none 0 0));simp only[Nat.zero_add]at hgr;have hfit:=growslice_fits (need:=m) (old:=0) (bytes:=i.bytes) (by omega) (by simpa using hbytes);have hc':=hs.cells';refine⟨_,_,?_,by simpa using hgr.1,hgr.2,.inr ⟨w.heap.size,rfl,Nat.le_refl _⟩,fun h=>absurd h hm,fun b j u hb=>by cases hb⟩;have h48: ¬(Builtin.nextslicecap m 0*i.bytes>2^48):=by simp only[Nat.reducePow];omega
   have hmi: ¬((9223372036854775807:Int)<(m:Int)):=by omega
   rw[hgw _ _ _ hg0 (by omega) (by simpa using h48)];generalize Builtin.firstCells i.size m x=f at hc' ⊢;simp[hmi,h48,typeInfo,zeroValue,hi,hz,Builtin.firstCells,Question.forced,newRow,grownCap,hc']
 ·by_cases hroom:n+m<=cap
  ·have hfit:n*i.size+news.length<=cur.size:=by rw[hs.length,hcs,<-Nat.add_mul];exact Nat.mul_le_mul_right _ hroom
   have hst:=bx P g (n*i.size) e fz news 0 cur w hg (rh hfz) (by simpa using hfit) hs.one;simp only[Nat.add_zero]at hst
   refine⟨.slice (some ⟨g,0,none⟩) (n+m) cap,_,?_,⟨hlen,.inr ⟨g,cap,_,fz,rfl,?_,setRow_heap w g cur (cur.toList.take (n*i.size)++news++cur.toList.drop (n*i.size+news.length)).toArray e _ hg,hroom,hcm,?_,?_⟩⟩,
    ⟨rfl,rfl,rfl,by simp,fun k _ hk=>setRow_other w g k _ (fun e=>hk (by simp[Value.ownBlock,e]))⟩,.inl rfl,fun h=>by subst h;rfl,fun b j u hb hj hc=> ?_⟩
   ·rw[hop _ _ _ hroom,hs.cells];simp[d8,hst]
   ·have he:(cur.toList.take (n*i.size)++news++cur.toList.drop (n*i.size+news.length)).toArray.size=cur.size:=by
     simp only[List.size_toArray,List.length_append,List.length_take,List.length_drop,Array.length_toList];omega
    rw[he];exact hfz
   ·simp only[List.size_toArray,List.length_append,List.length_take,List.length_drop,Array.length_toList];omega
   ·rw[htake,<-hlen];exact List.take_left
   ·have:g=b:=by simpa [blk] using hb
    subst this;rw[cell_setRow_same w g j cur _ e _ hg];rw[cell_of_row w g j cur e _ hg]at hc
    have hjl:j<(cur.toList.take (n*i.size)).length:=by
     rw[List.length_take,Array.length_toList,hcs];have:=Nat.mul_le_mul_right i.size hnc;omega
    simp only[List.getElem?_toArray];rw[List.append_assoc,List.getElem?_append_left hjl,List.getElem?_take,if_pos hj];simpa using hc
  ·have hge: ¬(n+m<=cap):=hroom;have hgr:=grown cap (by omega) (Value.ownBlock (.slice (some ⟨g,0,none⟩) n cap));have hfit:=growslice_fits (need:=n+m) (old:=cap) (bytes:=i.bytes) (by omega) hbytes;have hc':=hs.cells'
   have hold:(loadCells (⟨g,0,none⟩:Addr) (n*i.size)).run P w.drew= .ok xs.toArray w.drew:=by
    have:=run_loadCells_list (P:=P) w.drew ⟨g,0,none⟩ xs (fun j u hu=>by
     have hadd:(⟨g,0,none⟩:Addr).add j=⟨g,j,none⟩:=by unfold Addr.add;split<;>simp_all
     rw[hadd];have hj:j<n*i.size:=by rw[<-hown.1];exact(ca.1 hu).1
     exact(hown.cellAt j hj).trans hu)
    rwa [hown.1]at this
   refine⟨_,_,?_,hgr.1,hgr.2,.inr ⟨w.heap.size,rfl,Nat.le_refl _⟩,fun h=>by omega,fun b j u hb hj hc=> ?_⟩
   ·have h48: ¬(Builtin.nextslicecap (n+m) cap*i.bytes>2^48):=by simp only[Nat.reducePow];omega
    have hmi: ¬((9223372036854775807:Int)<(n:Int)+(m:Int)):=by omega
    rw[hgw _ _ _ hge hmi h48];generalize Builtin.firstCells i.size m x=f at hc' ⊢;simp[hmi,h48,typeInfo,zeroValue,hi,hz,Builtin.firstCells,Question.forced,newRow,grownCap,hold,hc',Array.append_assoc];rw[<-Array.append_assoc];simp
   ·have:g=b:=by simpa [blk] using hb
    subst this;have hgl:g<w.heap.size:=(Array.getElem?_eq_some_iff.1 hg).1;rw[World.cell?_alloc_lt w.drew _ _ hgl];exact hc
theorem ain{P:Program}{w:World}(t tx ty e:TypeId)(d:TypeDesc)(i:TypeInfo)(z:Value)(size bytes:Nat)(ht:P.underlying t=some (.slice e))(htx:P.underlying tx=some d)(hd: ∀k,d≠ .int k)
  (hi:P.info? e=some i) (hz:i.zero=some z) (hsize:i.size=size) (hby:i.bytes=bytes) (hzs:z.cells.size=size) (hbp:0<bytes)
  (a:Option Addr) (n:Nat) (xs:List Value) (h0:Src P w size (.slice a n n) n xs) (x:Value) (m:Nat) (hm:0<m) (news:List Value) (hs:Src P w size x m news) (hbytes:(n+m)*bytes<=140737488355328):
  ∃v' w',(Builtin.append_ #[t,tx] ty #[.slice a n n,x]).run P w= .ok v' w'/\OwnM P w' e size v' (n+m) (xs++news)/\w.grownBy w' none/\∃b,blk v'=some b/\w.heap.size<=b:=by
 subst hsize;subst hby;have hnm:n+m<=140737488355328:=Nat.le_trans (Nat.le_mul_of_pos_right _ hbp) hbytes;have h63:n+m<=maxLen:=by simp only[maxLen];omega
 have hso:du P e=some i.size:=by simp[du,hi]
 have hgw:=jc t tx ty e d i i.size ht htx hd hso hi a n n x m w hs.len;have hlen:(xs++news).length=(n+m)*i.size:=by rw[List.length_append,h0.length,hs.length,Nat.add_mul]
 have hge:=grownCap_ge w (n+m) n e;have hcm:grownCap w (n+m) n e<=maxLen:=grownCap_le_maxLen w (n+m) n e h63;have hg0: ¬(n+m<=n):=by omega
 have hfit:=growslice_fits (need:=n+m) (old:=n) (bytes:=i.bytes) (by omega) hbytes;have hc0:=h0.cells';have hc':=hs.cells';have h48: ¬(Builtin.nextslicecap (n+m) n*i.bytes>2^48):=by simp only[Nat.reducePow];omega
 have hmi: ¬((9223372036854775807:Int)<(n:Int)+(m:Int)):=by omega
 refine⟨.slice (some ⟨w.heap.size,0,none⟩) (n+m) (grownCap w (n+m) n e),w.drew.alloc (.cells (xs.toArray++news.toArray++Builtin.zeroCells z.cells (grownCap w (n+m) n e - (n+m))) e),?_,⟨hlen,.inr ⟨w.heap.size,_,_,(0,0),rfl,.inl rfl,heap_alloc_new w.drew _,hge,hcm,?_,?_⟩⟩,⟨rfl,rfl,rfl,by simp,fun k hk _=>heap_alloc_old w.drew _ k hk⟩,w.heap.size,rfl,Nat.le_refl _⟩
 ·rw[hgw hg0 hmi h48];generalize Builtin.firstCells i.size m x=f at hc' ⊢;generalize Builtin.firstCells i.size n (.slice a n n)=g at hc0 ⊢;simp[hmi,h48,typeInfo,zeroValue,hi,hz,Question.forced,newRow,grownCap,hc0,hc'];rw[<-Array.append_assoc];simp
 ·simp only[Array.size_append,List.size_toArray,size_zeroCells,hzs,h0.length,hs.length,<-Nat.add_mul];congr 1;omega
 ·simp only[Array.toList_append,List.append_assoc];rw[<-List.append_assoc,<-hlen];exact List.take_left
theorem af1{P:Program}{w:World}(t tx ty e:TypeId)(d:TypeDesc)(size:Nat)(ht:P.underlying t=some (.slice e))(htx:P.underlying tx=some d)(hd: ∀k,d≠ .int k)
  (hsz:du P e=some size) (a:Option Addr) (n:Nat) (x:Value) (news:List Value) (hs:Src P w size x 0 news):
  (Builtin.append_ #[t,tx] ty #[.slice a n n,x]).run P w= .ok (.slice a n n) w:=by
 have hn:news=[]:=List.eq_nil_of_length_eq_zero (by simpa using hs.length);subst hn;rw[jo t tx ty e d size ht htx hd hsz a n n x 0 w hs.len (Nat.le_refl _),hs.cells]
 cases a<;>simp[storeCells]
end Go.Proofs.Am

/- Operations on abstract values: conversions, lengths, parts of slices, new memory, stores, append. -/
namespace Go.Proofs.Am
open Go Go.RowKit
variable {P:Program}
def pur(σ:ASt):PV->Option (PV×List Nat)
 | .os n k=>match ah σ n with
  |some (.arr _ _ _ xs)=>if k=xs.length then some (.vs xs,[n])else none
  |_=>none
 | .nils=>some (.vs [],[])
 | .sn _=>some (.vs [],[])
 | .bool b=>some (.bool b,[])
 | .int k n=>some (.int k n,[])
 | .str l=>some (.str l,[])
 | .vs xs=>some (.vs xs,[])
 | .nilp=>some (.nilp,[])
 | .nilf=>some (.nilf,[])
 | .nili=>some (.nili,[])
 | .nilm=>some (.nilm,[])
 | .ifc t u=>some (.ifc t u,[])
 | .fn f []=>some (.fn f [],[])
 |_=>none
def gr(σ:ASt):List PV->Option (List PV×List Nat)
 |[]=>some ([],[])
 |u::us=>match pur σ u,gr σ us with
  |some (v,a),some (vs,b)=>some (v::vs,a++b)
  |_,_=>none
def ar(s:St)(ns:List Nat):St:=fun m=>if m∈ns then(s m).map Box.share else s m
def dj(σ:ASt)(ns:List Nat):ASt:=ns.map fun n=>(n,((ah σ n).getD (.cells [])).share)
theorem md{σ:ASt}: ∀{ns:List Nat} {s:St},(∀n∈ns,∃B,s n=some B/\(some B=ah σ n\/some B=(ah σ n).map Box.share))->app s (dj σ ns)=ar s ns
 |[],s,_=>by funext m;simp[dj,app,ar]
 |n::ns,s,h=>by
  obtain⟨B,hB,hB'⟩:=h n (by simp);have hsh: ∀C:Box,C.share.share=C.share:=fun C=>by cases C<;>rfl
  have hn: ∃C,ah σ n=some C/\(B=C\/B=C.share):=by
   rcases hB' with h1|h1
   ·exact⟨B,h1.symm,.inl rfl⟩
   ·cases hq:ah σ n with
    |none=>rw[hq]at h1;cases h1
    |some C=>rw[hq]at h1;exact⟨C,rfl,.inr (by simpa using h1)⟩
  obtain⟨C,hC,hBC⟩:=hn;have hBs:C.share=B.share:=by rcases hBC with rfl|rfl;rfl;exact(hsh C).symm
  have ih:=md (σ:=σ) (ns:=ns) (s:=upd s n (some C.share)) (fun m hm=>by
   by_cases hmn:m=n
   ·subst hmn;exact⟨C.share,by simp,.inr (by rw[hC];rfl)⟩
   ·rw[al _ _ hmn];exact h m (by simp[hm]))
  simp only[dj,List.map_cons,app,hC,Option.getD_some];rw[show(ns.map fun n=>(n,((ah σ n).getD (.cells [])).share))=dj σ ns from rfl,ih];funext m;simp only[ar,List.mem_cons];by_cases hmn:m=n
  ·subst hmn;simp[hB,hBs,hsh]
  ·simp[hmn,al]
theorem dp(s:St)(ns:List Nat)(n:Nat):ar s ns n=s n\/ar s ns n=(s n).map Box.share:=by
 unfold ar;split
 ·exact .inr rfl
 ·exact .inl rfl
theorem ee{x:Ctx P}{s:St}{hv:Nat->Value}{w:World}{σ:ASt}{u u':PV}{a ns:List Nat}{v:Value}(h:SimW x s hv w)(hs: ∀n∈a,s n=ah σ n)(hu:pur σ u=some (u',a))(ha: ∀n∈a,n∈ns)
  (hv0:RV (env x s hv w) v u):RP (env x (ar s ns) hv w).pc v u':=by
 have hE:=(h.shared (dp s ns)).2;have hp: ∀{r:PV},RP (env x s hv w).pc v r->RP (env x (ar s ns) hv w).pc v r:=fun h=>h.mono hE.pc
 cases u<;>simp only[pur]at hu<;>(try (cases hu;done))
 case bool b=>cases hu;rw[hv0.bool_inv];exact .bool b
 case int k n=>cases hu;rw[hv0.int_inv];exact .int k n
 case str l=>cases hu;rw[hv0.str_inv];exact .str l
 case nils=>cases hu;rw[hv0.nils_inv];exact .vs (sz:=0) (fun _ _=>undef) rfl (Nat.le_refl _) (by simp) (by simp) (by simp) (by simp)
 case sn b=>
  cases hu
  cases hv0 with
  |pure h=>cases h with
   |sn b c h=>exact .vs (sz:=0) (fun _ _=>undef) rfl (Nat.zero_le _) (by simp) (by simp) (by simp) (by simp)
 case vs xs=>cases hu;exact hp hv0.vs_inv
 case nilp=>cases hu;rw[hv0.nilp_inv];exact .nilp
 case nilf=>cases hu;rw[hv0.nilf_inv];exact .nilf
 case nili=>cases hu;cases hv0 with|pure h=>exact hp h
 case nilm=>cases hu;cases hv0 with|pure h=>exact hp h
 case ifc t u=>cases hu;cases hv0 with|pure h=>exact hp h
 case fn f cs=>
  cases cs with
  |cons=>cases hu
  |nil=>
   cases hu
   obtain⟨vs,rfl,hl,_⟩:=hv0.fn_inv;have:vs= #[]:=by simpa using hl
   subst this;exact .fn f
 case os n k=>
  split at hu
  ·rename_i e sz sh xs hf;split at hu
   ·rename_i hk;simp only[Option.some.injEq,Prod.mk.injEq]at hu;obtain⟨rfl,rfl⟩:=hu;obtain⟨_,e',sz',sh',xs',h1,h2,h3⟩:=hv0.os_arr ((hs n (by simp)).trans hf);have hsn:=hs n (by simp);rw[hf,h1]at hsn
    cases hsn
    rw[h3 hk];exact(h.shared (dp s ns)).1.asList (e:=e) (sz:=sz) (by simp[ar,ha n (by simp),h1,Box.share])
   ·cases hu
  ·cases hu
theorem dh{x:Ctx P}{s:St}{hv:Nat->Value}{w:World}{σ:ASt}{ns:List Nat}(h:SimW x s hv w): ∀{us us':List PV} {a:List Nat},(∀n∈a,s n=ah σ n)->gr σ us=some (us',a)->(∀n∈a,n∈ns)->
  us'.length=us.length/\∀(i:Nat) (u u':PV),us[i]? =some u->us'[i]? =some u'->∀v,RV (env x s hv w) v u->RP (env x (ar s ns) hv w).pc v u'
 |[],us',a,_,hu,_=>by cases hu;simp
 |u::us,us',a,hs,hu,ha=>by
  simp only[gr]at hu
  cases h1:pur σ u with
  |none=>rw[h1]at hu;cases hu
  |some p=>
   cases h2:gr σ us with
   |none=>rw[h1,h2]at hu;cases hu
   |some q=>
    obtain⟨p1,p2⟩:=p;obtain⟨q1,q2⟩:=q;rw[h1,h2]at hu;simp only[Option.some.injEq,Prod.mk.injEq]at hu;obtain⟨rfl,rfl⟩:=hu;obtain⟨ih1,ih2⟩:=dh h (us:=us) (us':=q1) (a:=q2) (fun n hn=>hs n (by simp[hn])) h2 (fun n hn=>ha n (by simp[hn]));refine⟨by simp[ih1],fun i r r' hr hr' v hv=> ?_⟩
    cases i with
    |zero=>
     simp at hr hr';subst hr hr'
     exact ee h (fun n hn=>hs n (by simp[hn])) h1 (fun n hn=>ha n (by simp[hn])) hv
    |succ i=>exact ih2 i r r' (by simpa using hr) (by simpa using hr') v hv
theorem mw{σ:ASt}{u u':PV}{a:List Nat}(h:pur σ u=some (u',a)): ∀n∈a,∃B,ah σ n=some B:=by
 cases u<;>simp only[pur]at h<;>(try (cases h;done))<;>(try (simp only[Option.some.injEq,Prod.mk.injEq]at h;obtain⟨_,rfl⟩:=h;simp;done))
 case fn f cs=>cases cs<;>simp only[pur]at h<;>cases h;simp
 case os n k=>
  split at h
  ·rename_i hf;split at h
   ·simp only[Option.some.injEq,Prod.mk.injEq]at h;obtain⟨_,rfl⟩:=h;simp[hf]
   ·cases h
  ·cases h
theorem gq{σ:ASt}: ∀{us us':List PV} {a:List Nat},gr σ us=some (us',a)->∀n∈a,∃B,ah σ n=some B
 |[],us',a,h=>by cases h;simp
 |u::us,us',a,h=>by
  simp only[gr]at h
  cases h1:pur σ u with
  |none=>rw[h1]at h;cases h
  |some p=>
   cases h2:gr σ us with
   |none=>rw[h1,h2]at h;cases h
   |some q=>
    rw[h1,h2]at h;simp only[Option.some.injEq,Prod.mk.injEq]at h;obtain⟨_,rfl⟩:=h;intro n hn;rcases List.mem_append.1 hn with hn|hn
    ·exact mw h1 n hn
    ·exact gq h2 n hn
def fx(P:Program)(t:TypeId):Bool:=match P.underlying t with|some .string=>true|_=>false
def jg(P:Program)(t:TypeId):Bool:=match br P t with|some e=>mo P e==some .u8|_=>false
def jn(P:Program)(t:TypeId):Bool:=(P.underlying t).isSome
def bo(l:List UInt8):List (List PV):=l.map fun b=>[PV.int .u8 (b.toNat:Int)]
theorem fj{P:Program}{t:TypeId}(h:fx P t=true):P.underlying t=some .string:=by
 unfold fx at h;split at h
 ·assumption
 ·cases h
theorem q6{P:Program}{t:TypeId}(h:jg P t=true): ∃e,P.underlying t=some (.slice e)/\P.underlying e=some (.int .u8):=by
 unfold jg at h;split at h
 ·rename_i e he;exact⟨e,az he,aeh (by simpa using h)⟩
 ·cases h
def pb(P:Program)(src dst:TypeId)(σ:ASt)(u:PV)(K:KT):Prop:=
 match u with
 | .int _ n=>match mo P dst with
  |some k'=>jn P src=true/\K (.int k' (k'.wrap n)) [] []
  |none=>False
 | .str l=>if fx P dst=true then jn P src=true/\K (.str l) [] []else fx P src=true/\jg P dst=true/\K (.vs (bo l)) [] []
 | .vs xs=>jg P src=true/\fx P dst=true/\∃l,xs=bo l/\K (.str l) [] []
 | .nils=>jg P src=true/\fx P dst=true/\K (.str []) [] []
 | .os n k=>match ah σ n with
  |some (.arr _ _ _ xs)=>k=xs.length/\jg P src=true/\fx P dst=true/\∃l,xs=bo l/\K (.str l) [] [n]
  |_=>False
 |_=>False
theorem SimW.anon{x:Ctx P}{s:St}{hv:Nat->Value}{w:World}(h:SimW x s hv w)(o:Obj)(k:Nat):SimW x s hv ((w.drewN k).alloc o)/\Env.le (env x s hv w) (env x s hv ((w.drewN k).alloc o)):=by
 have hold: ∀b,b<w.heap.size->((w.drewN k).alloc o).heap[b]? =w.heap[b]?:=fun b hb=>heap_alloc_old (w.drewN k) o b hb;have hE:Env.le (env x s hv w) (env x s hv ((w.drewN k).alloc o)):=lu (fun a v hp=>⟨(World.cell?_of_block (hold a.block hp.lt)).trans hp.1,hp.2⟩) fun n B hB=>⟨B,hB,Box.keep_refl _ _⟩;exact⟨h.step rfl rfl rfl (by simp[World.drewN]) hE (fun _ hn=>hn) (fun b hb _=>hold b (Nat.lt_of_lt_of_le hb h.size)) fun n B hB=> .inl ⟨hB,rfl,fun b hb=>hold b (h.blk_lt hB hb)⟩,hE⟩
theorem we{P:Program}{src dst:TypeId}{l:List UInt8}(hs:jg P src=true)(hd:fx P dst=true){E:Env}{v:Value}(hv:RP E.pc v (.vs (bo l))){w:World}(hc: ∀a v,E.pc a v->w.cell? a=some v):
  (convert src dst v).run P w= .ok (.string ⟨l.toArray⟩) w:=by
 obtain⟨e,h1,h2⟩:=q6 hs;obtain⟨a,c,sz,U,rfl,hl,hsz,_,hA,hr⟩:=hv.vs_inv;have hlen:(bo l).length=l.length:=by simp[bo]
 rw[hlen]at hl ⊢;rcases Nat.eq_zero_or_pos l.length with h0|h0
 ·have:l=[]:=List.eq_nil_of_length_eq_zero h0;subst this;have hb:=run_convert_bytes_string (P:=P) w src dst e a 0 c h1 h2 (fj hd);simp only[List.length_nil];rw[hb]
  cases a with
  |none=>rfl
  |some a=>simp[Conv.bytesToString,loadCells,loadCellsFrom];rfl
 ·obtain⟨ad,rfl,hA'⟩:=hA (by rw[hlen];exact h0)
  have hsz1:sz=1:=by
   have hm:[PV.int .u8 ((l[0]'h0).toNat:Int)]∈bo l:=by
    simp only[bo,List.mem_map];exact⟨l[0],List.getElem_mem _,rfl⟩
   have:=hsz _ hm;simpa using this.symm
  subst hsz1;refine run_convert_bytes_back (P:=P) w src dst e ad c l h1 h2 (fj hd) fun j hj=> ?_;have hx:(bo l)[j]? =some [PV.int .u8 (l[j].toNat:Int)]:=by simp[bo,bf hj]
  have h3:=hc _ _ (hA' j _ 0 _ hx rfl);have h4:=hr j _ 0 _ hx rfl;simp only[Nat.mul_one,Nat.add_zero]at h3;rw[h3];generalize U j 0=q at h4
  cases h4
  rfl
theorem so{P:Program}{o:Oper}{ρ:Operand->PV}{σ:ASt}{src dst:TypeId}{y:Operand}(ho:o.op= .convert src dst y){K:KT}(h:pb P src dst σ (ρ y) K):
  ∃u δ F,LOp P o ρ σ u δ F/\K u δ F:=by
 unfold pb at h;split at h
 ·rename_i k n hy
  cases hk:mo P dst with
  |none=>rw[hk]at h;exact h.elim
  |some k'=>
   rw[hk]at h;refine⟨_,_,_,ak fun s hs x a hv w hW hops=> ?_,h.2⟩;have hh:=hops y (by simp[ho,Op.operands]);rw[hy]at hh;obtain⟨d,hd⟩:=Option.isSome_iff_exists.1 h.1;exact⟨.int k' (k'.wrap n),by simp[execOp,ho,hh.int_inv,convert,run_underlying hd,run_underlying (aeh hk),Conv.intToInt],.pure (.int _ _)⟩
 ·rename_i l hy;split at h
  ·rename_i hd;refine⟨_,_,_,ak fun s hs x a hv w hW hops=> ?_,h.2⟩;have hh:=hops y (by simp[ho,Op.operands]);rw[hy]at hh;obtain⟨d,hsrc⟩:=Option.isSome_iff_exists.1 h.1;exact⟨.string ⟨l.toArray⟩,by simp[execOp,ho,hh.str_inv,convert,run_underlying hsrc,run_underlying (fj hd)],.pure (.str _)⟩
  ·obtain⟨h1,h2,h3⟩:=h;refine⟨_,_,_,⟨by simp,fun s hs x a hv w hW hops next Q hn=> ?_⟩,h3⟩;have hh:=hops y (by simp[ho,Op.operands]);rw[hy]at hh;obtain⟨e,he1,he2⟩:=q6 h2;have hr:=run_bytes_of_string (P:=P) w src dst e ⟨l.toArray⟩ (fj h1) he1 he2;have hA:=hW.anon (.cells (bytesRow ⟨l.toArray⟩ (grownCap w (ByteArray.size ⟨l.toArray⟩) 0 e)) e ((bytesRow ⟨l.toArray⟩ (grownCap w (ByteArray.size ⟨l.toArray⟩) 0 e)).size,(bytesRow ⟨l.toArray⟩ (grownCap w (ByteArray.size ⟨l.toArray⟩) 0 e)).size+1)) 1;unfold Oper.wp;simp only[execOp,ho,hh.str_inv,Sem.run_bind,hr,Result.andThen_ok,Sem.run_pure];rw[Oper.upon_value];refine hn _ hv _ hA.1 hA.2 (.pure ?_);have hge:=grownCap_ge w (ByteArray.size ⟨l.toArray⟩) 0 e;rw[j4]at hge ⊢;refine .vs (sz:=1) (fun i _=> .int .u8 ((l.getD i 0).toNat:Int)) (by simp[bo]) hge (by simp[bo]) (by simp[bo,eh]) (fun _=>⟨_,rfl,fun i r j u hr hu=> ?_⟩) fun i r j u hr hu=> ?_
   ·obtain⟨b,hb,rfl⟩: ∃b,l[i]? =some b/\[PV.int .u8 (b.toNat:Int)]=r:=by simpa [bo] using hr
    have hj:j=0:=by
     have:=(ca.1 hu).1;simp at this;exact this
    subst hj;have hil:i<l.length:=(ca.1 hb).1;rw[d8];simp only[Nat.mul_one,Nat.add_zero,Nat.zero_add];refine⟨?_,.inr (.inl ?_),fun n B hB hbk=> ?_⟩
    ·rw[cell_of_row _ w.heap.size i _ e _ (heap_alloc_new w.drew _)];rw[abq 0 hb];simp[bytesRow,Array.getElem?_append,hil,(ca.1 hb).2]
    ·exact hW.size
    ·have:=hW.blk_lt hB hbk;exact absurd this (Nat.lt_irrefl _)
   ·obtain⟨b,hb,rfl⟩: ∃b,l[i]? =some b/\[PV.int .u8 (b.toNat:Int)]=r:=by simpa [bo] using hr
    have hj:j=0:=by
     have:=(ca.1 hu).1;simp at this;exact this
    subst hj;simp at hu;subst hu;rw[abq 0 hb];exact .int _ _
 ·rename_i xs hy;obtain⟨h1,h2,l,rfl,h3⟩:=h;refine⟨_,_,_,ak fun s hs x a hv w hW hops=> ?_,h3⟩;have hh:=hops y (by simp[ho,Op.operands]);rw[hy]at hh;exact⟨.string ⟨l.toArray⟩,by simp only[execOp,ho];rw[Sem.run_bind,we h1 h2 hh.vs_inv (fun a v hp=>hp.1)];rfl,.pure (.str _)⟩
 ·rename_i hy;obtain⟨h1,h2,h3⟩:=h;refine⟨_,_,_,ak fun s hs x a hv w hW hops=> ?_,h3⟩;have hh:=hops y (by simp[ho,Op.operands]);rw[hy]at hh;have hp:RP (env x s hv w).pc (.slice none 0 0) (.vs (bo [])):= .vs (sz:=1) (fun _ _=>undef) rfl (Nat.le_refl _) (by simp[bo]) (by simp[bo]) (by simp) (by simp[bo]);exact⟨.string ⟨([]:List UInt8).toArray⟩,by simp only[execOp,ho,hh.nils_inv];rw[Sem.run_bind,we h1 h2 hp (fun a v hp=>hp.1)];rfl,.pure (.str _)⟩
 ·rename_i n k hy;split at h
  ·rename_i e sz sh xs hf;obtain⟨hk,h1,h2,l,rfl,h3⟩:=h;refine⟨_,_,_,ak fun s hs x a hv w hW hops=> ?_,h3⟩;have hh:=hops y (by simp[ho,Op.operands]);rw[hy]at hh;have hp:=ee (ns:=[n]) hW hs (by simp[pur,hf,hk]:pur σ (.os n k)=some (.vs (bo l),[n])) (by simp) hh;exact⟨.string ⟨l.toArray⟩,by simp only[execOp,ho];rw[Sem.run_bind,we h1 h2 hp (fun a v hp=>hp.1)];rfl,.pure (.str _)⟩
  ·exact h.elim
 ·exact h.elim
def ay(P:Program)(t:TypeId):Bool:=(br P t).isSome
def uf(P:Program)(t:TypeId)(σ:ASt)(u:PV)(K:KT):Prop:=
 match u with
 | .str l=>fx P t=true/\K (.int .i64 l.length) [] []
 | .vs xs=>ay P t=true/\K (.int .i64 xs.length) [] []
 | .nils=>ay P t=true/\K (.int .i64 0) [] []
 | .sn _=>ay P t=true/\K (.int .i64 0) [] []
 | .os n k=>match ah σ n with
  |some (.arr _ _ _ xs)=>k=xs.length/\ay P t=true/\K (.int .i64 k) [] [n]
  |some (.arh _ _ xs)=>k=xs.length/\ay P t=true/\K (.int .i64 k) [] [n]
  |_=>False
 | .osl _ k i=>ay P t=true/\K (.int .i64 ((k - i:Nat):Int)) [] []
 | .oq n k=>match ah σ n with
  |some (.arq _ _ k' xs)=>k=k'/\ay P t=true/\K (.int .i64 xs.length) [] [n]
  |_=>False
 |_=>match t8 P t with
  |some (n,_)=>K (.int .i64 n) [] []
  |none=>False
theorem fw{P:Program}{t ty:TypeId}(h:ay P t=true)(a:Option Addr)(n c:Nat)(w:World):(Builtin.len_ #[t] ty #[.slice a n c]).run P w= .ok (.int .i64 n) w:=by
 obtain⟨e,he⟩:=Option.isSome_iff_exists.1 h;simp[Builtin.len_,run_underlying (az he),goInt]
theorem a7q{x:Ctx P}{s:St}{hv:Nat->Value}{w:World}(hW:SimW x s hv w){n k:Nat}{v:Value}(h:RV (env x s hv w) v (.os n k)){e sz:Nat}{sh:Bool}{xs:List (List PV)}(hs:s n=some (.arr e sz sh xs))(hk:k=xs.length):
  ∃a c,v= .slice a k c:=h.os_inv.1
theorem agx{P:Program}{o:Oper}{ρ:Operand->PV}{σ:ASt}{t:TypeId}{y:Operand}(ho:o.op= .call {callee:= .builtin .len,args:= #[y],argTypes:= #[t]}){K:KT}(h:uf P t σ (ρ y) K):
  ∃u δ F,LOp P o ρ σ u δ F/\K u δ F:=by
 have go: ∀(u:PV) (F:List Nat),(∀(s:St),(∀n∈F,s n=ah σ n)->∀(x:Ctx P) hv w v,SimW x s hv w->RV (env x s hv w) v (ρ y)->∃r,(Builtin.len_ #[t] o.type #[v]).run P w= .ok r w/\RV (env x s hv w) r u)->LOp P o ρ σ u [] F:=fun u F hu=>by
  refine ak fun s hs x a hv w hW hops=> ?_;obtain⟨r,h1,h2⟩:=hu s hs x hv w _ hW (hops y (by simp[ho,Op.operands,Call.operands]));refine⟨r,?_,h2⟩;simp[execOp,ho,resolve,invoke,builtin,h1]
 unfold uf at h;split at h
 ·rename_i l hy;exact⟨_,_,_,go _ _ fun s hs x hv w v hW hv0=>⟨_,by rw[hy]at hv0;rw[hv0.str_inv];simp[Builtin.len_,run_underlying (fj h.1),goInt,j4],.pure (.int _ _)⟩,h.2⟩
 ·rename_i xs hy;refine⟨_,_,_,go _ _ fun s hs x hv w v hW hv0=> ?_,h.2⟩;rw[hy]at hv0;obtain⟨a,c,sz,U,rfl,_⟩:=hv0.vs_inv.vs_inv;exact⟨_,fw h.1 a xs.length c w,.pure (.int _ _)⟩
 ·rename_i hy;refine⟨_,_,_,go _ _ fun s hs x hv w v hW hv0=> ?_,h.2⟩;rw[hy]at hv0;rw[hv0.nils_inv];exact⟨_,fw h.1 none 0 0 w,.pure (.int _ _)⟩
 ·rename_i b hy;refine⟨_,_,_,go _ _ fun s hs x hv w v hW hv0=> ?_,h.2⟩;rw[hy]at hv0
  cases hv0 with
  |pure hq=>cases hq with
   |sn b c _=>exact⟨_,fw h.1 _ 0 c w,.pure (.int _ _)⟩
 ·rename_i n k hy;split at h
  ·rename_i e sz sh xs hf;obtain⟨hk,h1,h2⟩:=h;refine⟨_,_,_,go _ [n] fun s hs x hv w v hW hv0=> ?_,h2⟩;rw[hy]at hv0;obtain⟨a,c,rfl⟩:=a7q hW hv0 ((hs n (by simp)).trans hf) hk;exact⟨_,fw h1 a k c w,.pure (.int _ _)⟩
  ·rename_i e sz xs hf;obtain⟨hk,h1,h2⟩:=h;refine⟨_,_,_,go _ [n] fun s hs x hv w v hW hv0=> ?_,h2⟩;rw[hy]at hv0;obtain⟨a,c,rfl⟩:=hv0.os_inv.1;exact⟨_,fw h1 a k c w,.pure (.int _ _)⟩
  ·exact h.elim
 ·rename_i n k i hy;refine⟨_,_,_,go _ _ fun s hs x hv w v hW hv0=> ?_,h.2⟩;rw[hy]at hv0;obtain⟨q,c,rfl,_⟩:=hv0.osl_inv;exact⟨_,fw h.1 (some q) (k - i) c w,.pure (.int _ _)⟩
 ·rename_i n k hy;split at h
  ·rename_i e sz k' xs hf;obtain⟨rfl,h1,h2⟩:=h;refine⟨_,_,_,go _ [n] fun s hs x hv w v hW hv0=> ?_,h2⟩;rw[hy]at hv0;have hsn:=(hs n (by simp)).trans hf;obtain⟨_,B,sz',l,g1,g2,g3,g4⟩:=hv0.oq_inv;rw[hsn]at g1
   cases g1
   simp only[Box.qdim,Option.some.injEq,Prod.mk.injEq]at g2;obtain⟨_,ys,hown,_⟩:=hW.box n _ hsn;rw[g4 g2.2];rcases hown.2 with ⟨q1,q2⟩|⟨g,o',cap,cur,fz,q1,_⟩
   ·rw[q1,q2];exact⟨_,fw h1 none 0 0 w,.pure (.int _ _)⟩
   ·rw[q1];exact⟨_,fw h1 _ _ _ w,.pure (.int _ _)⟩
  ·exact h.elim
 ·cases ha:t8 P t with
  |none=>rw[ha]at h;exact h.elim
  |some p=>
   obtain⟨n,e⟩:=p;rw[ha]at h;refine⟨_,_,_,go _ _ fun s hs x hv w v hW hv0=>⟨.int .i64 n,?_,.pure (.int _ _)⟩,h⟩;simp[Builtin.len_,run_underlying (abt ha),goInt]
theorem ape{P:Program}{o:Oper}{ρ:Operand->PV}{σ:ASt}{src dst:TypeId}{y:Operand}{l:List UInt8}{d e:Nat}(ho:o.op= .convert src dst y)(hy:ρ y= .str l)(h1:P.underlying src=some .string)
  (he1:P.underlying dst=some (.slice e)) (he2:P.underlying e=some (.int .u8)) (hd:ah σ d=none) (hl:l.length<=140737488355328):LOp P o ρ σ (.os d l.length) [(d,.arr e 1 false (bo l))] [d]:=by
 refine⟨by simp,fun s hs x a hv w hW hops next Q hn=> ?_⟩;have hh:=hops y (by simp[ho,Op.operands]);rw[hy]at hh;have hsd:s d=none:=(hs d (by simp)).trans hd;have hr:=run_bytes_of_string (P:=P) w src dst e ⟨l.toArray⟩ h1 he1 he2;have hge:=grownCap_ge w (ByteArray.size ⟨l.toArray⟩) 0 e;have hm:=grownCap_le_maxLen w (ByteArray.size ⟨l.toArray⟩) 0 e (by rw[j4];simp only[maxLen];omega);rw[j4]at hge hm hr
 have hsz:(bytesRow ⟨l.toArray⟩ (grownCap w l.length 0 e)).size=grownCap w l.length 0 e:=by
  simp[bytesRow];have:(ByteArray.mk l.toArray).size=l.length:=j4 l;omega
 have hpl:(bo l).length=l.length:=by simp[bo]
 obtain⟨hW1,hE1⟩:=hW.drew 1
 have hN:=hW1.new (d:=d) (hd:= .slice (some ⟨w.heap.size,0,none⟩) l.length (grownCap w l.length 0 e)) (B:= .arr e 1 false (bo l))
  (w':=(w.drewN 1).alloc (.cells (bytesRow ⟨l.toArray⟩ (grownCap w l.length 0 e)) e ((bytesRow ⟨l.toArray⟩ (grownCap w l.length 0 e)).size,(bytesRow ⟨l.toArray⟩ (grownCap w l.length 0 e)).size+1))) hsd rfl rfl rfl (by simp)
  (fun b hb=>heap_alloc_old (w.drewN 1) _ b hb) (fun b hb=>by simp[blk]at hb;show w.heap.size<=b;omega) fun E hE=>by
   refine⟨by omega,l.map fun b=> .int .u8 (b.toNat:Int),⟨by simp[bo],.inr ⟨w.heap.size,_,_,_,by rw[hpl],.inr ⟨he2,rfl⟩,heap_alloc_new (w.drewN 1) _,by rw[hpl];exact hge,hm,by rw[hsz,Nat.mul_one],?_⟩⟩,by simp[bo],by simp[bo,eh],fun i r j u hr hu=> ?_⟩
   ·rw[hpl,Nat.mul_one];simp[bytesRow]
   ·obtain⟨b,hb,rfl⟩: ∃b,l[i]? =some b/\[PV.int .u8 (b.toNat:Int)]=r:=by simpa [bo] using hr
    have hj:j=0:=by
     have:=(ca.1 hu).1;simp at this;exact this
    subst hj;simp at hu;subst hu;rw[Nat.mul_one,Nat.add_zero,bq,List.getElem?_map,hb];exact .int _ _
 unfold Oper.wp;simp only[execOp,ho,hh.str_inv,Sem.run_bind,hr,Result.andThen_ok,Sem.run_pure];rw[Oper.upon_value];exact hn _ _ _ hN.1 (hE1.trans hN.2) (.os ⟨⟨_,_,rfl⟩,.arr e 1 false (bo l),1,l.length,by simp[app],by simp[Box.dim,hpl],Nat.le_refl _,fun _=>by simp⟩)
def oz(P:Program)(src dst:TypeId)(od:Option Nat)(σ:ASt)(u:PV)(K:KT):Prop:=
 match u,od with
 | .str l,some d=>if fx P dst=true then jn P src=true/\K (.str l) [] []else
   match br P dst with
   |some e=>fx P src=true/\jg P dst=true/\ah σ d=none/\l.length<=140737488355328/\K (.os d l.length) [(d,.arr e 1 false (bo l))] [d]
   |none=>False
 |u,_=>pb P src dst σ u K
theorem acj{P:Program}{o:Oper}{ρ:Operand->PV}{σ:ASt}{src dst:TypeId}{y:Operand}(ho:o.op= .convert src dst y){K:KT}(h:oz P src dst o.dst σ (ρ y) K):
  ∃u δ F,LOp P o ρ σ u δ F/\K u δ F:=by
 unfold oz at h;split at h
 ·rename_i l d hy hd;by_cases hs:fx P dst=true
  ·rw[if_pos hs]at h;refine so ho ?_;rw[hy];unfold pb;simp only[hs,if_true];exact h
  ·rw[if_neg hs]at h;split at h
   ·rename_i e he;obtain⟨h1,h2,h3,h4,h5⟩:=h;obtain⟨e',he1,he2⟩:=q6 h2;have hee:=az he;rw[he1]at hee
    cases hee
    exact⟨_,_,_,ape ho hy (fj h1) he1 he2 h3 h4,h5⟩
   ·exact h.elim
 ·exact so ho h
end Go.Proofs.Am

/- Operations on abstract values: parts of slices, new memory, stores, append. -/
namespace Go.Proofs.Am
open Go Go.RowKit
variable {P:Program}
theorem adt{P:Program}{o:Oper}{ρ:Operand->PV}{σ:ASt}{u:PV}{ns:List Nat}(hns: ∀n∈ns,∃B,ah σ n=some B)
  (h: ∀(s:St),(∀n∈ns,s n=ah σ n)->∀(x:Ctx P) (a:Act) (hv:Nat->Value) (w:World),SimW x s hv w->(∀y∈o.op.operands,RV (env x s hv w) (a.eval y) (ρ y))->
   ∃v,(execOp a.eval o).run P w= .ok (.value v) w/\RV (env x (ar s ns) hv w) v u):LOp P o ρ σ u (dj σ ns) ns:=by
 refine⟨fun p hp=> ?_,fun s hs x a hv w hW hops next Q hn=> ?_⟩
 ·obtain⟨n,hn,rfl⟩:=List.mem_map.1 hp;exact hn
 ·obtain⟨v,h1,h2⟩:=h s hs x a hv w hW hops
  have hap:app s (dj σ ns)=ar s ns:=md fun n hn=>by
   obtain⟨B,hB⟩:=hns n hn;exact⟨B,(hs n hn).trans hB,.inl hB.symm⟩
  unfold Oper.wp;rw[h1,Oper.upon_value];have hsh:=hW.shared (dp s ns);refine hn v hv w ?_ ?_ ?_
  ·rw[hap];exact hsh.1
  ·rw[hap];exact hsh.2
  ·rw[hap];exact h2
def loN:Option PV->Option Int
 |none=>some 0
 |some (.int _ n)=>some n
 |_=>none
def hiN(len:Nat):Option PV->Option Int
 |none=>some len
 |some (.int _ n)=>some n
 |_=>none
def BV(o:Option PV)(v:Option Value):Prop:=match o,v with
 |none,none=>True
 |some (.int k n),some v=>v= .int k n
 |_,_=>False
theorem wo{E:Env}{a:Act}{ρ:Operand->PV}{y:Option Operand}{l:Int}(h:loN (y.map ρ)=some l)(hr: ∀z∈y,RV E (a.eval z) (ρ z)):BV (y.map ρ) (y.map a.eval):=by
 cases y with
 |none=>trivial
 |some z=>
  have h1:=hr z (by simp);simp only[Option.map_some]at h ⊢;generalize ρ z=u at h h1
  cases u<;>simp only[loN]at h<;>(try (cases h;done))
  exact h1.int_inv
theorem ai3{len:Nat}{o:Option PV}{l:Int}(h:hiN len o=some l): ∃l',loN o=some l':=by
 unfold hiN at h;split at h
 ·exact⟨0,rfl⟩
 ·exact⟨_,rfl⟩
 ·cases h
theorem abz{o:Option PV}{v:Option Value}{l:Int}(h:loN o=some l)(b:BV o v):(o=none/\v=none/\l=0)\/∃k,o=some (.int k l)/\v=some (.int k l):=by
 unfold loN at h;split at h
 ·cases v with
  |none=>exact .inl ⟨rfl,rfl,by simpa using h.symm⟩
  |some _=>exact b.elim
 ·rename_i k n
  cases v with
  |none=>exact b.elim
  |some v=>
   have b':v= .int k n:=b
   cases h
   exact .inr ⟨k,rfl,by rw[b']⟩
 ·cases h
theorem abh{len:Nat}{o:Option PV}{v:Option Value}{l:Int}(h:hiN len o=some l)(b:BV o v):(o=none/\v=none/\l=len)\/∃k,o=some (.int k l)/\v=some (.int k l):=by
 unfold hiN at h;split at h
 ·cases v with
  |none=>exact .inl ⟨rfl,rfl,by simpa using h.symm⟩
  |some _=>exact b.elim
 ·rename_i k n
  cases v with
  |none=>exact b.elim
  |some v=>
   have b':v= .int k n:=b
   cases h
   exact .inr ⟨k,rfl,by rw[b']⟩
 ·cases h
theorem i7{P:Program}{w:World}(b:Bool)(len cap:Nat)(hc:len<=cap){lo hi mx:Option PV}{vl vh vm:Option Value}{l h m:Int}(h1:loN lo=some l)(h2:hiN len hi=some h)(h3:hiN len mx=some m)
  (b1:BV lo vl) (b2:BV hi vh) (b3:BV mx vm) (h0:0<=l) (hlh:l<=h) (hhm:h<=m) (hm:m<=len) (hmx:mx.isSome->hi.isSome):
  ∃m',(Instr.sliceBounds b len cap vl vh vm).run P w= .ok (l.toNat,h.toNat,m') w/\h.toNat<=m'/\(vm=none->m'=cap)/\(vm≠none->m'=m.toNat):=by
 have hsb: ∀(k:IntKind) (i:Int) (y:Nat) (c:BoundsCode),0<=i->i<=y->(Instr.sliceBound (.int k i) y c).run P w= .ok i.toNat w:=fun k i y c h0 h1=>run_sliceBound w k i y c h0 h1;rcases abh h3 b3 with ⟨_,rfl,rfl⟩|⟨km,rfl,rfl⟩
 ·refine⟨cap,?_,by omega,fun _=>rfl,fun h=>absurd rfl h⟩;rcases abh h2 b2 with ⟨_,rfl,rfl⟩|⟨kh,_,rfl⟩
  ·rcases abz h1 b1 with ⟨_,rfl,rfl⟩|⟨kl,_,rfl⟩
   ·simp[Instr.sliceBounds]
   ·simp[Instr.sliceBounds,hsb kl l len _ h0 (by omega)]
  ·rcases abz h1 b1 with ⟨_,rfl,rfl⟩|⟨kl,_,rfl⟩
   ·simp[Instr.sliceBounds,hsb kh h cap _ (by omega) (by omega)]
   ·simp[Instr.sliceBounds,hsb kh h cap _ (by omega) (by omega),hsb kl l h.toNat _ h0 (by omega)]
 ·refine⟨m.toNat,?_,by omega,(fun h=>by cases h),fun _=>rfl⟩;rcases abh h2 b2 with ⟨rfl,rfl,rfl⟩|⟨kh,_,rfl⟩
  ·simp at hmx
  ·rcases abz h1 b1 with ⟨_,rfl,rfl⟩|⟨kl,_,rfl⟩
   ·simp[Instr.sliceBounds,hsb km m cap _ (by omega) (by omega),hsb kh h m.toNat _ (by omega) (by omega)]
   ·simp[Instr.sliceBounds,hsb km m cap _ (by omega) (by omega),hsb kh h m.toNat _ (by omega) (by omega),hsb kl l h.toNat _ h0 (by omega)]
theorem na{P:Program}{t e:TypeId}{tsz:Nat}(ht:br P t=some e)(hts:du P e=some tsz){pc:Addr->Value->Prop}{v:Value}{xs:List (List PV)}(hv:RP pc v (.vs xs)){lo hi mx:Option PV}{vl vh vm:Option Value}{l h m:Int}
  (h1:loN lo=some l) (h2:hiN xs.length hi=some h) (h3:hiN xs.length mx=some m) (b1:BV lo vl) (b2:BV hi vh) (b3:BV mx vm) (h0:0<=l) (hlh:l<=h) (hhm:h<=m) (hm:m<=xs.length) (hmx:mx.isSome->hi.isSome) (w:World)
  (hsz:0<l->∀x∈xs,x.length=tsz):
  ∃v',(Instr.sliceAt t v vl vh vm).run P w= .ok v' w/\RP pc v' (.vs ((xs.take h.toNat).drop l.toNat))/\(vm≠none->∃a,v'= .slice a (h.toNat - l.toNat) (m.toNat - l.toNat)):=by
 obtain⟨a,c,sz,U,rfl,hc,hs,h1p,hA,hr⟩:=hv.vs_inv;obtain⟨m',hb,hm1,hm2,hm3⟩:=i7 (P:=P) (w:=w) true xs.length c hc h1 h2 h3 b1 b2 b3 h0 hlh hhm hm hmx;refine⟨.slice (if m'=l.toNat then a else a.map (·.add (l.toNat*tsz))) (h.toNat - l.toNat) (m' - l.toNat),?_,?_,fun h=>⟨_,by rw[hm3 h]⟩⟩
 ·simp[Instr.sliceAt,Instr.slice,run_underlying (az ht),hb,dq hts]
 ·have hxs: ∀i x,((xs.take h.toNat).drop l.toNat)[i]? =some x->xs[l.toNat+i]? =some x:=fun i x hx=>by
   rw[List.getElem?_drop,List.getElem?_take]at hx;split at hx
   ·exact hx
   ·cases hx
  refine .vs (sz:=sz) (fun i j=>U (l.toNat+i) j) (by rw[List.length_drop,List.length_take];omega) (by omega) (fun x hx=>hs x (List.mem_of_mem_take (List.mem_of_mem_drop hx))) (fun x hx=>h1p x (List.mem_of_mem_take (List.mem_of_mem_drop hx))) (fun hp=> ?_) fun i x j u hx hu=>hr _ x j u (hxs i x hx) hu;have hxl:0<xs.length:=by omega
  obtain⟨ad,rfl,hA'⟩:=hA hxl;have hne:m'≠l.toNat:=by omega
  rw[if_neg hne];refine⟨_,rfl,fun i x j u hx hu=> ?_⟩;have:=hA' _ x j u (hxs i x hx) hu;rw[Addr.add_assoc']
  have hadd:l.toNat*tsz+(i*sz+j)=(l.toNat+i)*sz+j:=by
   rcases Int.lt_or_le 0 l with hl|hl
   ·have:tsz=sz:=by rw[<-hsz hl x (List.mem_of_getElem? (hxs i x hx)),hs x (List.mem_of_getElem? (hxs i x hx))]
    subst this;rw[Nat.add_mul,Nat.add_assoc]
   ·have:l.toNat=0:=by omega
    simp[this]
  rw[hadd];exact this
def auk(P:Program)(t:TypeId)(σ:ASt)(u:PV)(lo hi mx:Option PV)(K:KT):Prop:=
 ∃l,loN lo=some l/\
 match u with
 | .vs xs=> ∃e sz h m,br P t=some e/\du P e=some sz/\hiN xs.length hi=some h/\hiN xs.length mx=some m/\0<=l/\l<=h/\h<=m/\m<=xs.length/\(mx.isSome->hi.isSome)/\
   (0<l->∀x∈xs,x.length=sz)/\K (.vs ((xs.take h.toNat).drop l.toNat)) [] []
 | .nils=> ∃e sz h m,br P t=some e/\du P e=some sz/\hiN 0 hi=some h/\hiN 0 mx=some m/\0<=l/\l<=h/\h<=m/\m<=0/\(mx.isSome->hi.isSome)/\K (.vs []) [] []
 | .os n k=>match ah σ n with
  |some (.arr _ asz _ xs)=> ∃e sz h m,br P t=some e/\du P e=some sz/\asz=sz/\hiN xs.length hi=some h/\hiN xs.length mx=some m/\k=xs.length/\0<=l/\l<=h/\h<=m/\m<=xs.length/\(mx.isSome->hi.isSome)/\
   K (.vs ((xs.take h.toNat).drop l.toNat)) (dj σ [n]) [n]
  |_=>False
 | .str s=> ∃h,hiN s.length hi=some h/\fx P t=true/\mx=none/\0<=l/\l<=h/\h<=s.length/\K (.str ((s.take h.toNat).drop l.toNat)) [] []
 |_=>False
theorem ql{P:Program}{o:Oper}{ρ:Operand->PV}{σ:ASt}{t:TypeId}{y:Operand}{lo hi mx:Option Operand}(ho:o.op= .slice t y lo hi mx){K:KT}(h:auk P t σ (ρ y) (lo.map ρ) (hi.map ρ) (mx.map ρ) K):
  ∃u δ F,LOp P o ρ σ u δ F/\K u δ F:=by
 obtain⟨l,hl,h⟩:=h;have hopl: ∀z∈lo,z∈o.op.operands:=fun z hz=>by cases lo<;>simp_all [Op.operands]
 have hoph: ∀z∈hi,z∈o.op.operands:=fun z hz=>by cases hi<;>simp_all [Op.operands]
 have hopm: ∀z∈mx,z∈o.op.operands:=fun z hz=>by cases mx<;>simp_all [Op.operands]
 have hex: ∀(a:Act) (v:Value) w r,a.eval y=v->(Instr.sliceAt t v (lo.map a.eval) (hi.map a.eval) (mx.map a.eval)).run P w= .ok r w->(execOp a.eval o).run P w= .ok (.value r) w:=fun a v w r hv hr=>by
  simp only[execOp,ho];rw[Sem.run_bind,hv,hr];rfl
 split at h
 ·rename_i xs hy;obtain⟨e,sz,hh,m,h1,h2,h3,h4,h5,h6,h7,h8,h9,h10,h11⟩:=h;refine⟨_,_,_,ak fun s hs x a hv w hW hops=> ?_,h11⟩;have hv0:=hops y (by simp[ho,Op.operands]);rw[hy]at hv0;obtain⟨lh',hlh'⟩:=ai3 h3;obtain⟨lm',hlm'⟩:=ai3 h4;obtain⟨v',k1,k2,_⟩:=na h1 h2 hv0.vs_inv hl h3 h4 (wo hl fun z hz=>hops z (hopl z hz)) (wo hlh' fun z hz=>hops z (hoph z hz)) (wo hlm' fun z hz=>hops z (hopm z hz)) h5 h6 h7 h8 h9 w h10;exact⟨v',hex a _ w v' rfl k1,.pure k2⟩
 ·rename_i hy;obtain⟨e,sz,hh,m,h1,h2,h3,h4,h5,h6,h7,h8,h9,h11⟩:=h;refine⟨_,_,_,ak fun s hs x a hv w hW hops=> ?_,h11⟩;have hv0:=hops y (by simp[ho,Op.operands]);rw[hy]at hv0;obtain⟨lh',hlh'⟩:=ai3 h3;obtain⟨lm',hlm'⟩:=ai3 h4;have hp:RP (env x s hv w).pc (a.eval y) (.vs []):=by rw[hv0.nils_inv];exact .vs (sz:=0) (fun _ _=>undef) rfl (Nat.le_refl _) (by simp) (by simp) (by simp) (by simp)
  obtain⟨v',k1,k2,_⟩:=na h1 h2 hp hl h3 h4 (wo hl fun z hz=>hops z (hopl z hz)) (wo hlh' fun z hz=>hops z (hoph z hz)) (wo hlm' fun z hz=>hops z (hopm z hz)) h5 h6 h7 h8 h9 w (by simp);exact⟨v',hex a _ w v' rfl k1,.pure (by simpa using k2)⟩
 ·rename_i n k hy;split at h
  ·rename_i e' asz sh xs hf;obtain⟨e,sz,hh,m,h1,h2,h2',h3,h4,h4',h5,h6,h7,h8,h9,h11⟩:=h;refine⟨_,_,_,adt (ns:=[n]) (by simp[hf]) fun s hs x a hv w hW hops=> ?_,h11⟩;have hv0:=hops y (by simp[ho,Op.operands]);rw[hy]at hv0;obtain⟨lh',hlh'⟩:=ai3 h3;obtain⟨lm',hlm'⟩:=ai3 h4;have hp:=ee (ns:=[n]) hW hs (by simp[pur,hf,h4']:pur σ (.os n k)=some (.vs xs,[n])) (by simp) hv0;have hbox:=hW.box n _ ((hs n (by simp)).trans hf);obtain⟨_,_,_,hlens,_,_⟩:=hbox;obtain⟨v',k1,k2,_⟩:=na h1 h2 hp hl h3 h4 (wo hl fun z hz=>hops z (hopl z hz)) (wo hlh' fun z hz=>hops z (hoph z hz)) (wo hlm' fun z hz=>hops z (hopm z hz)) h5 h6 h7 h8 h9 w (fun _ x hx=>by rw[hlens x hx,h2']);exact⟨v',hex a _ w v' rfl k1,.pure k2⟩
  ·exact h.elim
 ·rename_i s0 hy;obtain⟨hh,h3,h4,h5,h6,h7,h8,h9⟩:=h;refine⟨_,_,_,ak fun s hs x a hv w hW hops=> ?_,h9⟩;have hv0:=hops y (by simp[ho,Op.operands]);rw[hy]at hv0;obtain⟨lh',hlh'⟩:=ai3 h3;have hm0:mx=none:=by cases mx<;>simp_all
  subst hm0;obtain⟨m',hb,hm1,hm2,_⟩:=i7 (P:=P) (w:=w) (m:=s0.length) false s0.length s0.length (Nat.le_refl _) hl h3 (mx:=none) (vm:=none) rfl (wo hl fun z hz=>hops z (hopl z hz)) (wo hlh' fun z hz=>hops z (hoph z hz)) trivial h6 h7 h8 (by omega) (by simp);refine⟨.string ⟨((s0.take hh.toNat).drop l.toNat).toArray⟩,hex a _ w _ hv0.str_inv ?_,.pure (.str _)⟩
  have hex:(⟨s0.toArray⟩:ByteArray).extract l.toNat hh.toNat=⟨((s0.take hh.toNat).drop l.toNat).toArray⟩:=by
   apply ByteArray.ext;simp[ByteArray.data_extract,List.drop_take]
  simp[Instr.sliceAt,Instr.slice,run_underlying (fj h4),j4,hb,hex]
 ·exact h.elim
theorem af0{P:Program}{o:Oper}{ρ:Operand->PV}{σ:ASt}{t e sz:TypeId}{y z m:Operand}{xs:List (List PV)}{kh km:IntKind}{i:Int}(ho:o.op= .slice t y none (some z) (some m))(hy:ρ y= .vs xs)(hz:ρ z= .int kh i)(hm:ρ m= .int km i)
  (h1:br P t=some e) (h2:du P e=some sz) (h0:0<=i) (hi:i<=xs.length):LOp P o ρ σ (.vx (xs.take i.toNat)) [] []:=by
 refine ak fun s hs x a hv w hW hops=> ?_;have hv0:=hops y (by simp[ho,Op.operands]);have hv1:=hops z (by simp[ho,Op.operands]);have hv2:=hops m (by simp[ho,Op.operands]);rw[hy]at hv0;rw[hz]at hv1;rw[hm]at hv2;obtain⟨v',k1,k2,k3⟩:=na h1 h2 hv0.vs_inv (lo:=none) (hi:=some (.int kh i)) (mx:=some (.int km i)) (vl:=none) (vh:=some (a.eval z)) (vm:=some (a.eval m)) (l:=0) (h:=i) (m:=i) rfl rfl rfl trivial hv1.int_inv hv2.int_inv (Int.le_refl 0) h0 (Int.le_refl i) hi (fun _=>rfl) w (fun h=>absurd h (by omega));obtain⟨a',hv'⟩:=k3 (by simp);refine⟨v',?_,.vx hv' (by simpa using k2)⟩;simp only[execOp,ho,Option.map_none,Option.map_some];rw[Sem.run_bind,k1];rfl
theorem aax{P:Program}{o:Oper}{ρ:Operand->PV}{σ:ASt}{t e sz e':TypeId}{y z m:Operand}{n k:Nat}{sh:Bool}{xs:List (List PV)}{kh km:IntKind}{i:Int}(ho:o.op= .slice t y none (some z) (some m))(hy:ρ y= .os n k)(hf:ah σ n=some (.arr e' sz sh xs))(hk:k=xs.length)(hz:ρ z= .int kh i)(hm:ρ m= .int km i)
  (h1:br P t=some e) (h2:du P e=some sz) (h0:0<=i) (hi:i<=xs.length):LOp P o ρ σ (.vx (xs.take i.toNat)) (dj σ [n]) [n]:=by
 refine adt (ns:=[n]) (by simp[hf]) fun s hs x a hv w hW hops=> ?_;have hv0:=hops y (by simp[ho,Op.operands]);have hv1:=hops z (by simp[ho,Op.operands]);have hv2:=hops m (by simp[ho,Op.operands]);rw[hy]at hv0;rw[hz]at hv1;rw[hm]at hv2;have hp:=ee (ns:=[n]) hW hs (by simp[pur,hf,hk]:pur σ (.os n k)=some (.vs xs,[n])) (by simp) hv0;obtain⟨v',k1,k2,k3⟩:=na h1 h2 hp (lo:=none) (hi:=some (.int kh i)) (mx:=some (.int km i)) (vl:=none) (vh:=some (a.eval z)) (vm:=some (a.eval m)) (l:=0) (h:=i) (m:=i) rfl rfl rfl trivial hv1.int_inv hv2.int_inv (Int.le_refl 0) h0 (Int.le_refl i) hi (fun _=>rfl) w (fun h=>absurd h (by omega));obtain⟨a',hv'⟩:=k3 (by simp);refine⟨v',?_,.vx hv' (by simpa using k2)⟩;simp only[execOp,ho,Option.map_none,Option.map_some];rw[Sem.run_bind,k1];rfl
end Go.Proofs.Am

/- Operations on abstract values: new memory, stores, append. -/
namespace Go.Proofs.Am
open Go Go.RowKit
variable {P:Program}
def dl:PV->Option (List PV)
 | .agg cs=>some cs
 | .undef=>none
 | .tup _=>none
 | .ago _=>none
 |u=>some [u]
def RVs(E:Env)(a:Array Value)(us:List PV):Prop:=a.size=us.length/\∀i u,us[i]? =some u->RV E (a.getD i undef) u
theorem RVs.mono{E F:Env}(h:Env.le E F){a:Array Value}{us:List PV}(hr:RVs E a us):RVs F a us:=⟨hr.1,fun i u hu=>(hr.2 i u hu).mono h⟩
theorem RVs.one{E:Env}{v:Value}{u:PV}(h:RV E v u):RVs E #[v] [u]:=by
 refine⟨rfl,fun i u' hu'=> ?_⟩
 cases i with
 |zero=>simp at hu';subst hu';exact h
 |succ i=>simp at hu'
theorem ann{u:PV}(h:eh u=true):dl u=some [u]:=by cases u<;>simp_all [eh,dl]
theorem gy{x:Ctx P}{s:St}{hv:Nat->Value}{w:World}{v:Value}{u:PV}(h:RV (env x s hv w) v u)(ho:eh u=true):v.oneCell'=true/\v.cells= #[v]:=by
 cases h with
 |undef=>cases ho
 |pure h=>cases h<;>first|exact⟨rfl,rfl⟩|cases ho
 |ptr h=>obtain⟨_,b,_,hb⟩:=h;rw[hb];exact⟨rfl,rfl⟩
 |os h=>obtain⟨⟨a,c,hb⟩,_⟩:=h;rw[hb];exact⟨rfl,rfl⟩
 |oel h=>obtain⟨⟨q,hb⟩,_⟩:=h;rw[hb];exact⟨rfl,rfl⟩
 |osl hv h=>rw[hv];exact⟨rfl,rfl⟩
 |vx hv h=>rw[hv];exact⟨rfl,rfl⟩
 |mh h=>
  obtain⟨⟨⟨b,hb⟩,_⟩,_⟩:=h
  cases v<;>simp[blk]at hb<;>exact⟨rfl,rfl⟩
 |oq h=>obtain⟨⟨a,m,c,hb⟩,_⟩:=h;rw[hb];exact⟨rfl,rfl⟩
 |oss hv h=>rw[hv];exact⟨rfl,rfl⟩
 |oqe h h1 hq=>obtain⟨q,hb⟩:=h1;rw[hb];exact⟨rfl,rfl⟩
 |el=>exact⟨rfl,rfl⟩
 |agg=>cases ho
 |tup=>cases ho
 |ago=>cases ho
 |fn=>exact⟨rfl,rfl⟩
theorem ec{x:Ctx P}{s:St}{hv:Nat->Value}{w:World}{v:Value}{u:PV}{us:List PV}(h:RV (env x s hv w) v u)(hc:dl u=some us):RVs (env x s hv w) v.cells us:=by
 by_cases ho:eh u=true
 ·rw[ann ho]at hc
  cases hc
  rw[(gy h ho).2];exact .one h
 ·cases u<;>simp[eh]at ho<;>simp only[dl]at hc<;>(try (cases hc;done))
  cases hc
  obtain⟨vs,rfl,hl,hr⟩:=h.agg_inv;exact⟨hl,hr⟩
def a9x(off:Nat)(us cs:List PV):List PV:=us.zipIdx.foldl (fun cs p=>cs.set (off+p.2) p.1) cs
theorem ac3{E:Env}(off:Nat): ∀(vs:List Value) (us:List PV) (k:Nat) (a:Array Value) (cs:List PV),RVs E a cs->vs.length=us.length->(∀i u,us[i]? =some u->RV E (vs.getD i undef) u)->
  RVs E ((vs.zipIdx k).foldl (fun cs (c,j)=>cs.setIfInBounds (off+j) c) a) ((us.zipIdx k).foldl (fun cs p=>cs.set (off+p.2) p.1) cs)
 |[],[],k,a,cs,h,_,_=>h
 |v::vs,u::us,k,a,cs,h,hl,hr=>by
  simp only[List.zipIdx_cons,List.foldl_cons];refine ac3 off vs us (k+1) _ _ ⟨by simp[h.1],fun i r hi=> ?_⟩ (by simpa using hl) fun i r hi=> ?_
  ·rw[List.getElem?_set]at hi;by_cases hki:off+k=i
   ·subst hki;rw[if_pos rfl]at hi;split at hi
    ·rename_i hlt;have hlt':off+k<a.size:=by rw[h.1];exact hlt
     cases hi
     have h0:=hr 0 u rfl;simp at h0;simpa [hlt'] using h0
    ·cases hi
   ·rw[if_neg hki]at hi;have:=h.2 i r hi;have hil:i<a.size:=by rw[h.1];exact(ca.1 hi).1
    simpa [Array.getD_eq_getD_getElem?,Array.getElem?_setIfInBounds_ne hki] using this
  ·have:=hr (i+1) r (by simpa using hi)
   simpa using this
 |[],_::_,_,_,_,_,hl,_=>by simp at hl
 |_::_,[],_,_,_,_,hl,_=>by simp at hl
def au9(place:Nat->Option (Nat×Nat))(cs:List PV):List (Nat×PV)->Option (List PV)
 |[]=>some cs
 |(i,u)::r=>
  match place i,dl u with
  |some (off,size),some us=>if us.length≠size\/off+us.length>cs.length then none else au9 place (a9x off us cs) r
  |_,_=>none
theorem sf{x:Ctx P}{s:St}{hv:Nat->Value}{w:World}{place place':Nat->Option (Nat×Nat)}(hp: ∀i p,place i=some p->place' i=some p): ∀(ps:List (Nat×Value)) (qs:List (Nat×PV)) (a:Array Value) (cs cs':List PV),
  RVs (env x s hv w) a cs->ps.length=qs.length->(∀(i:Nat) (p:Nat×Value) (q:Nat×PV),ps[i]? =some p->qs[i]? =some q->p.1=q.1/\RV (env x s hv w) p.2 q.2)->au9 place cs qs=some cs'->
  ∃a',Instr.fill place' a ps=some a'/\RVs (env x s hv w) a' cs'
 |[],[],a,cs,cs',h,_,_,hf=>by cases hf;exact⟨a,rfl,h⟩
 |(i,v)::ps,(j,u)::qs,a,cs,cs',h,hl,hr,hf=>by
  obtain⟨h1,h2⟩:=hr 0 (i,v) (j,u) rfl rfl;simp only at h1 h2;subst h1;simp only[au9]at hf
  cases hpl:place i with
  |none=>rw[hpl]at hf;cases hf
  |some p=>
   obtain⟨off,size⟩:=p
   cases hc:dl u with
   |none=>rw[hpl,hc]at hf;cases hf
   |some us=>
    rw[hpl,hc]at hf;simp only at hf;split at hf
    ·cases hf
    ·rename_i hn;have hcs:=ec h2 hc;have hlay:=ac3 off v.cells.toList us 0 a cs h (by simpa using hcs.1) (fun i r hi=>by have:=hcs.2 i r hi;simpa [bq] using this);obtain⟨a',h3,h4⟩:=sf hp ps qs _ _ cs' hlay (by simpa using hl) (fun k p q hp hq=>hr (k+1) p q (by simpa using hp) (by simpa using hq)) hf;refine⟨a',?_,h4⟩;simp only[Instr.fill,hp i _ hpl];rw[if_neg (by rw[hcs.1,h.1];simpa using hn),<-h3];congr 1;rw[<-Array.foldl_toList];congr 1
     simp
 |[],_::_,_,_,_,_,hl,_,_=>by simp at hl
 |_::_,[],_,_,_,_,hl,_,_=>by simp at hl
def cl(P:Program)(t:TypeId):Option (List (Nat×Nat)):=
 match P.underlying t with
 |some (.struct fs)=>fs.toList.mapM fun f=>(P.info? f.type).map fun i=>(f.offset,i.size)
 |some (.array n e)=>(P.info? e).map fun ie=>(List.range n).map fun i=>(i*ie.size,ie.size)
 |_=>none
def wd(P:Program)(t:TypeId)(parts:List (Nat×PV)):Option (List PV):=
 match bk P t,cl P t with
 |some zs,some pl=>au9 (pl[·]?) zs parts
 |_,_=>none
theorem fg{P:Program}{t:TypeId}{zs:List PV}(h:bk P t=some zs): ∃it z,P.info? t=some it/\it.zero=some z/\z.cells.toList.map abk=zs:=by
 unfold bk at h
 cases hi:P.info? t with
 |none=>rw[hi]at h;cases h
 |some it=>
  cases hz:it.zero with
  |none=>rw[hi]at h;simp[hz]at h
  |some z=>rw[hi]at h;simp[hz]at h;exact⟨it,z,rfl,hz,h⟩
theorem aji(E:Env)(z:Value):RVs E z.cells (z.cells.toList.map abk):=by
 refine⟨by simp,fun i u hu=> ?_⟩;rw[List.getElem?_map]at hu
 cases hq:z.cells.toList[i]? with
 |none=>rw[hq]at hu;cases hu
 |some v=>
  rw[hq]at hu
  cases hu
  have hi:z.cells[i]? =some v:=by simpa using hq
  rw[Array.getD_eq_getD_getElem?,hi];exact vf _ _
theorem aii{P:Program}{t:TypeId}{x:Ctx P}{s:St}{hv:Nat->Value}{w:World}{ps:List (Nat×Value)}{qs:List (Nat×PV)}{cs:List PV}(hl:ps.length=qs.length)
  (hr: ∀(i:Nat) (p:Nat×Value) (q:Nat×PV),ps[i]? =some p->qs[i]? =some q->p.1=q.1/\RV (env x s hv w) p.2 q.2) (hb:wd P t qs=some cs): ∃a,P.built t ps=some a/\RVs (env x s hv w) a cs:=by
 unfold wd at hb
 cases hz:bk P t with
 |none=>rw[hz]at hb;cases hb
 |some zs=>
  cases hp:cl P t with
  |none=>rw[hz,hp]at hb;cases hb
  |some pl=>
   rw[hz,hp]at hb;obtain⟨it,z,h1,h2,h3⟩:=fg hz;have hz0:=aji (env x s hv w) z;rw[h3]at hz0;unfold cl at hp;unfold Program.built;rw[h1]
   cases hu:P.underlying t with
   |none=>rw[hu]at hp;cases hp
   |some d=>
    rw[hu]at hp
    cases d<;>simp only at hp<;>(try (cases hp;done))
    case struct fs=>
     simp only[h2,hp];obtain⟨a',k1,k2⟩:=sf (place':=(pl.toArray[·]?)) (fun i p hip=>by simpa using hip) ps qs z.cells zs cs hz0 hl hr hb;exact⟨a',k1,k2⟩
    case array n e=>
     cases he:P.info? e with
     |none=>rw[he]at hp;cases hp
     |some ie=>
      rw[he]at hp;simp only[Option.map_some,Option.some.injEq]at hp;subst hp;simp only[h2,he]
      obtain⟨a',k1,k2⟩:=sf (place':=fun i=>some (i*ie.size,ie.size)) (fun i p hip=>by
       rw[List.getElem?_map]at hip
       cases hq:(List.range n)[i]? with
       |none=>rw[hq]at hip;cases hip
       |some j=>
        rw[hq]at hip
        have:j=i:=by
         have:=List.getElem?_range (n:=n) (i:=i) (by have:=(ca.1 hq).1;simpa using this);rw[hq]at this;exact Option.some.inj this
        subst this;exact hip) ps qs z.cells zs cs hz0 hl hr hb
      exact⟨a',k1,k2⟩
theorem ao9{P:Program}{o:Oper}{ρ:Operand->PV}{σ:ASt}{t:TypeId}{parts:Array (Nat×Operand)}{cs:List PV}(ho:o.op= .build t parts)(hb:wd P t (parts.toList.map fun p=>(p.1,ρ p.2))=some cs):LOp P o ρ σ (.agg cs) [] []:=by
 refine ak fun s hs x a hv w hW hops=> ?_
 obtain⟨arr,h1,h2⟩:=aii (P:=P) (t:=t) (x:=x) (s:=s) (hv:=hv) (w:=w) (ps:=parts.toList.map fun p=>(p.1,a.eval p.2)) (by simp) (fun i p q hp hq=>by
  rw[List.getElem?_map]at hp hq
  cases hr:parts.toList[i]? with
  |none=>rw[hr]at hp;cases hp
  |some r=>
   rw[hr]at hp hq
   cases hp
   cases hq
   refine⟨rfl,hops r.2 ?_⟩;simp only[ho,Op.operands,List.mem_toArray,List.mem_map];simp;exact⟨r.1,by simpa using Array.mem_of_getElem? (by simpa using hr)⟩) hb
 refine⟨.agg arr,?_,.agg h2.1 h2.2⟩;have hm:(parts.map fun(i,x)=>(i,a.eval x)).toList=parts.toList.map fun p=>(p.1,a.eval p.2):=by simp
 simp only[execOp,ho];rw[Sem.run_bind,run_build w t _ arr (by rw[hm];exact h1)];rfl
theorem ao8{P:Program}{o:Oper}{ρ:Operand->PV}{σ:ASt}{d:Nat}{us:List PV}(hd:ah σ d=none)
  (h: ∀(x:Ctx P) (s:St) (a:Act) (hv:Nat->Value) (w:World),SimW x s hv w->(∀y∈o.op.operands,RV (env x s hv w) (a.eval y) (ρ y))->
   ∃arr t,(execOp a.eval o).run P w= .ok (.value (.pointer (some ⟨w.heap.size,0,none⟩))) (w.alloc (.cells arr t))/\RVs (env x s hv w) arr us):LOp P o ρ σ (.ptr d 0) [(d,.cells us)] [d]:=by
 refine⟨by simp,fun s hs x a hv w hW hops next Q hn=> ?_⟩;obtain⟨arr,t,h1,h2⟩:=h x s a hv w hW hops;have hsd:s d=none:=(hs d (by simp)).trans hd;have hN:=hW.newCells (t:=t) hsd h2.1 h2.2;unfold Oper.wp;rw[h1,Oper.upon_value];exact hn _ _ _ hN.1 hN.2 (.ptr ⟨⟨us,by simp[app]⟩,w.heap.size,by simp,rfl⟩)
theorem auy{P:Program}{o:Oper}{ρ:Operand->PV}{σ:ASt}{t d:Nat}{zs:List PV}(ho:o.op= .alloc t)(hz:bk P t=some zs)(hd:ah σ d=none):LOp P o ρ σ (.ptr d 0) [(d,.cells zs)] [d]:=by
 obtain⟨it,z,h1,h2,h3⟩:=fg hz;refine ao8 hd fun x s a hv w hW hops=>⟨z.cells,t,?_,?_⟩
 ·simp[execOp,ho,Instr.alloc,zeroValue,typeInfo,h1,h2,newVar,newRow]
 ·rw[<-h3];exact aji _ z
theorem a2p{P:Program}{o:Oper}{ρ:Operand->PV}{σ:ASt}{t d:Nat}{y:Operand}{us:List PV}(ho:o.op= .box t y)(hy:dl (ρ y)=some us)(hd:ah σ d=none):LOp P o ρ σ (.ptr d 0) [(d,.cells us)] [d]:=by
 refine ao8 hd fun x s a hv w hW hops=>⟨(a.eval y).cells,t,?_,ec (hops y (by simp[ho,Op.operands])) hy⟩;simp[execOp,ho,Instr.box,newVar,newRow]
theorem SimW.newArr{x:Ctx P}{s:St}{hv:Nat->Value}{w:World}{d:Nat}{e sz n:Nat}{arr:Array Value}{xs:List (List PV)}(h:SimW x s hv w)(hn:s d=none)(hsz:0<sz)(hl:xs.length<=n)(hm:n<=maxLen)(ha:arr.size=n*sz)
  (hlen: ∀x∈xs,x.length=sz) (hone: ∀x∈xs,x.all eh=true) (hr: ∀i r j u,xs[i]? =some r->r[j]? =some u->RP (env x s hv w).pc (arr.getD (i*sz+j) undef) u):
  SimW x (upd s d (some (.arr e sz false xs))) (upd hv d (.slice (some ⟨w.heap.size,0,none⟩) xs.length n)) (w.alloc (.cells arr e))/\
   Env.le (env x s hv w) (env x (upd s d (some (.arr e sz false xs))) (upd hv d (.slice (some ⟨w.heap.size,0,none⟩) xs.length n)) (w.alloc (.cells arr e))):=
 h.new hn rfl rfl rfl (by simp) (fun b hb=>heap_alloc_old w _ b hb) (fun b hb=>by simp[blk]at hb;omega) fun E hE=>by
  have hle:xs.length*sz<=n*sz:=Nat.mul_le_mul_right _ hl;refine⟨hsz,arr.toList.take (xs.length*sz),⟨by simp[ha,hle],.inr ⟨w.heap.size,n,arr,(0,0),rfl,.inl rfl,heap_alloc_new w _,hl,hm,ha,rfl⟩⟩,hlen,hone,fun i r j u hr' hu=> ?_⟩;have hi:i<xs.length:=(ca.1 hr').1
  have hj:j<sz:=by
   have:=(ca.1 hu).1;rw[hlen r (List.mem_of_getElem? hr')]at this;exact this
  have hlt:=gm hi hj;have:=hr i r j u hr' hu
  have hg:(arr.toList.take (xs.length*sz)).getD (i*sz+j) undef=arr.getD (i*sz+j) undef:=by
   rw[bq,List.getElem?_take,if_pos hlt];simp
  rw[hg];exact this.mono hE.pc
theorem r8{P:Program}{o:Oper}{ρ:Operand->PV}{σ:ASt}{d e sz:Nat}{xs:List (List PV)}{ns:List Nat}(hd:ah σ d=none)(hsz:0<sz)(hlen: ∀x∈xs,x.length=sz)(hone: ∀x∈xs,x.all eh=true)(hns: ∀n∈ns,∃B,ah σ n=some B)
  (h: ∀(x:Ctx P) (s:St) (a:Act) (hv:Nat->Value) (w:World),(∀n∈ns,s n=ah σ n)->SimW x s hv w->(∀y∈o.op.operands,RV (env x s hv w) (a.eval y) (ρ y))->
   ∃arr n,(execOp a.eval o).run P w= .ok (.value (.slice (some ⟨w.heap.size,0,none⟩) xs.length n)) (w.alloc (.cells arr e))/\xs.length<=n/\n<=maxLen/\arr.size=n*sz/\
    ∀i r j u,xs[i]? =some r->r[j]? =some u->RP (env x (ar s ns) hv w).pc (arr.getD (i*sz+j) undef) u):
  LOp P o ρ σ (.os d xs.length) (dj σ ns++[(d,.arr e sz false xs)]) (d::ns):=by
 have happ: ∀(δ ε:ASt) (s:St),app s (δ++ε)=app (app s δ) ε:=by
  intro δ
  induction δ with
  |nil=>intro ε s;rfl
  |cons p δ ih=>intro ε s;obtain⟨n,B⟩:=p;simp[app,ih]
 refine⟨fun p hp=> ?_,fun s hs x a hv w hW hops next Q hn=> ?_⟩
 ·rcases List.mem_append.1 hp with hp|hp
  ·obtain⟨n,hn,rfl⟩:=List.mem_map.1 hp;simp[hn]
  ·simp at hp;subst hp;simp
 ·have hsn: ∀n∈ns,s n=ah σ n:=fun n hn=>hs n (by simp[hn]);obtain⟨arr,n,h1,h2,h3,h4,h5⟩:=h x s a hv w hsn hW hops;have hsh:=hW.shared (dp s ns)
  have hap:app s (dj σ ns)=ar s ns:=md fun n hn=>by
   obtain⟨B,hB⟩:=hns n hn;exact⟨B,(hsn n hn).trans hB,.inl hB.symm⟩
  have hsd:ar s ns d=none:=by
   have hd0:s d=none:=(hs d (by simp)).trans hd;rcases dp s ns d with hh|hh<;>rw[hh,hd0];rfl
  have hN:=hsh.1.newArr (e:=e) hsd hsz h2 h3 h4 hlen hone h5;unfold Oper.wp;rw[h1,Oper.upon_value];refine hn _ (upd hv d (.slice (some ⟨w.heap.size,0,none⟩) xs.length n)) _ ?_ ?_ ?_
  ·rw[happ,hap];exact hN.1
  ·rw[happ,hap];exact hsh.2.trans hN.2
  ·rw[happ,hap];exact .os ⟨⟨_,_,rfl⟩,.arr e sz false xs,sz,xs.length,by simp[app],rfl,Nat.le_refl _,fun _=>by simp⟩
end Go.Proofs.Am

/- Operations on abstract values: slices made, stores, append, and some small ones. -/
namespace Go.Proofs.Am
open Go Go.RowKit
variable {P:Program}
theorem ae6(off:Nat): ∀(z:List (Value×Nat)) (a:Array Value),(z.foldl (fun cs (c,j)=>cs.setIfInBounds (off+j) c) a).size=a.size
 |[],_=>rfl
 |p::z,a=>by simp only[List.foldl_cons];rw[ae6 off z];simp
theorem ako(off:Nat): ∀(vs:List Value) (k:Nat) (a:Array Value) (m:Nat),off+k+vs.length<=a.size->
  ((vs.zipIdx k).foldl (fun cs (c,j)=>cs.setIfInBounds (off+j) c) a)[m]? =if off+k<=m/\m<off+k+vs.length then vs[m - (off+k)]? else a[m]?
 |[],k,a,m,_=>by simp;omega
 |v::vs,k,a,m,h=>by
  simp only[List.zipIdx_cons,List.foldl_cons];rw[ako off vs (k+1) _ m (by simp at h ⊢;omega)];by_cases h1:off+k=m
  ·subst h1;have hlt:off+k<a.size:=by simp at h;omega
   rw[if_neg (by omega),if_pos (by simp),Array.getElem?_setIfInBounds_self_of_lt hlt];simp
  ·by_cases h2:off+k<=m/\m<off+k+(v::vs).length
   ·rw[if_pos h2,if_pos (by simp at h2 ⊢;omega)];rw[show m - (off+k)=(m - (off+(k+1)))+1 by omega];simp
   ·rw[if_neg h2,if_neg (by simp at h2 ⊢;omega)];rw[Array.getElem?_setIfInBounds_ne h1]
theorem um{sz:Nat}: ∀(vs:List Value) (k:Nat) (a:Array Value),(∀v∈vs,v.cells.size=sz)->(k+vs.length)*sz<=a.size->
  ∃a',Instr.fill (fun i=>some (i*sz,sz)) a ((vs.zipIdx k).map fun p=>(p.2,p.1))=some a'/\a'.size=a.size/\(∀m,m<k*sz->a'[m]? =a[m]?)/\
   ∀i v j,vs[i]? =some v->j<sz->a'[(k+i)*sz+j]? =v.cells[j]?
 |[],k,a,_,_=>⟨a,rfl,rfl,fun _ _=>rfl,fun i v j hv=>by simp at hv⟩
 |v::vs,k,a,hv,hl=>by
  have hvs:v.cells.size=sz:=hv v (by simp);have hks:(k+1+vs.length)*sz<=a.size:=by rw[show k+1+vs.length=k+(v::vs).length by simp;omega];exact hl
  have hk1:(k+1)*sz<=a.size:=Nat.le_trans (Nat.mul_le_mul_right _ (by omega)) hks;have hk2:k*sz+sz<=a.size:=by rw[Nat.add_mul]at hk1;omega
  let b:=v.cells.zipIdx.foldl (fun cs (c,j)=>cs.setIfInBounds (k*sz+j) c) a
  have hb:b=(v.cells.toList.zipIdx 0).foldl (fun cs (c,j)=>cs.setIfInBounds (k*sz+j) c) a:=by
   show v.cells.zipIdx.foldl _ a=_;rw[<-Array.foldl_toList];congr 1;simp
  have hbs:b.size=a.size:=by rw[hb,ae6]
  have hbg: ∀m,b[m]? =if k*sz<=m/\m<k*sz+sz then v.cells[m - k*sz]? else a[m]?:=fun m=>by
   rw[hb,ako (k*sz) v.cells.toList 0 a m (by simp[hvs];omega)];simp[hvs]
  obtain⟨a',h1,h2,h3,h4⟩:=um vs (k+1) b (fun u hu=>hv u (by simp[hu])) (by rw[hbs];exact hks);refine⟨a',?_,by rw[h2,hbs],fun m hm=> ?_,fun i u j hi hj=> ?_⟩
  ·simp only[List.zipIdx_cons,List.map_cons,Instr.fill,hvs];rw[if_neg (by simp;omega)];exact h1
  ·rw[h3 m (by rw[Nat.add_mul];omega),hbg m,if_neg (by omega)]
  ·cases i with
   |zero=>
    simp at hi;subst hi;rw[Nat.add_zero,h3 _ (by rw[Nat.add_mul];omega),hbg,if_pos (by omega)];congr 1
    omega
   |succ i=>
    have:=h4 i u j (by simpa using hi) hj;rw[show k+1+i=k+(i+1) by omega]at this;exact this
def oc(σ:ASt)(sz:Nat):Nat->List (Nat×PV)->Option (List (List PV)×List Nat)
 |_,[]=>some ([],[])
 |k,(i,u)::r=>
  if i=k then
   match dl u with
   |some us=>if us.length=sz/\us.all eh=true then
     match gr σ us,oc σ sz (k+1) r with
     |some (vs,a),some (xs,b)=>some (vs::xs,a++b)
     |_,_=>none
    else none
   |none=>none
  else none
theorem vg{x:Ctx P}{s:St}{hv:Nat->Value}{w:World}{σ:ASt}{sz:Nat}{ns:List Nat}(h:SimW x s hv w): ∀(qs:List (Nat×PV)) (k:Nat) (vs:List Value) {xs:List (List PV)} {b:List Nat},oc σ sz k qs=some (xs,b)->(∀n∈b,s n=ah σ n)->(∀n∈b,n∈ns)->
  vs.length=qs.length->(∀(i:Nat) (v:Value) (q:Nat×PV),vs[i]? =some v->qs[i]? =some q->RV (env x s hv w) v q.2)->
  xs.length=qs.length/\(∀r∈xs,r.length=sz)/\(∀v∈vs,v.cells.size=sz)/\(∀(i:Nat) (q:Nat×PV),qs[i]? =some q->q.1=k+i)/\
   ∀(i:Nat) (r:List PV) (v:Value) (j:Nat) (u:PV),xs[i]? =some r->vs[i]? =some v->r[j]? =some u->RP (env x (ar s ns) hv w).pc (v.cells.getD j undef) u
 |[],k,[],xs,b,hr,_,_,_,_=>by cases hr;simp
 |(i,u)::qs,k,v::vs,xs,b,hr,hs,hb,hl,hrv=>by
  simp only[oc]at hr;split at hr
  ·rename_i hik
   cases hc:dl u with
   |none=>rw[hc]at hr;cases hr
   |some us=>
    rw[hc]at hr;simp only at hr;split at hr
    ·rename_i hus
     cases hp:gr σ us with
     |none=>rw[hp]at hr;cases hr
     |some p=>
      cases hq:oc σ sz (k+1) qs with
      |none=>rw[hp,hq]at hr;cases hr
      |some q=>
       obtain⟨p1,p2⟩:=p;obtain⟨q1,q2⟩:=q;rw[hp,hq]at hr;simp only[Option.some.injEq,Prod.mk.injEq]at hr;obtain⟨rfl,rfl⟩:=hr;have hcs:=ec (hrv 0 v (i,u) rfl rfl) hc;obtain⟨hp1,hp2⟩:=dh (ns:=ns) h (fun n hn=>hs n (by simp[hn])) hp (fun n hn=>hb n (by simp[hn]));obtain⟨h1,h2,h3,h4,h5⟩:=vg h qs (k+1) vs hq (fun n hn=>hs n (by simp[hn])) (fun n hn=>hb n (by simp[hn])) (by simpa using hl) (fun j v q hv hq=>hrv (j+1) v q (by simpa using hv) (by simpa using hq));refine⟨by simp[h1],?_,?_,?_,?_⟩
       ·intro r hr;rcases List.mem_cons.1 hr with rfl|hr
        ·rw[hp1,hus.1]
        ·exact h2 r hr
       ·intro v' hv';rcases List.mem_cons.1 hv' with rfl|hv'
        ·rw[hcs.1,hus.1]
        ·exact h3 v' hv'
       ·intro j q hjq
        cases j with
        |zero=>simp at hjq;subst hjq;exact hik
        |succ j=>have:=h4 j q (by simpa using hjq);omega
       ·intro j r v' m u' hr hv' hu'
        cases j with
        |zero=>
         simp at hr hv';subst hr hv';have hm:m<us.length:=by rw[<-hp1];exact(ca.1 hu').1
         exact hp2 m us[m] u' (bf hm) hu' _ (hcs.2 m us[m] (bf hm))
        |succ j=>exact h5 j r v' m u' (by simpa using hr) (by simpa using hv') hu'
    ·cases hr
  ·cases hr
 |[],_,_::_,_,_,_,_,_,hl,_=>by simp at hl
 |_::_,_,[],_,_,_,_,_,hl,_=>by simp at hl
theorem wc{σ:ASt}{sz:Nat}: ∀{qs:List (Nat×PV)} {k:Nat} {xs:List (List PV)} {b:List Nat},oc σ sz k qs=some (xs,b)->∀n∈b,∃B,ah σ n=some B
 |[],k,xs,b,h=>by cases h;simp
 |(i,u)::qs,k,xs,b,h=>by
  simp only[oc]at h;split at h
  ·cases hc:dl u with
   |none=>rw[hc]at h;cases h
   |some us=>
    rw[hc]at h;simp only at h;split at h
    ·cases hp:gr σ us with
     |none=>rw[hp]at h;cases h
     |some p=>
      cases hq:oc σ sz (k+1) qs with
      |none=>rw[hp,hq]at h;cases h
      |some q=>
       rw[hp,hq]at h;simp only[Option.some.injEq,Prod.mk.injEq]at h;obtain⟨_,rfl⟩:=h;intro n hn;rcases List.mem_append.1 hn with hn|hn
       ·exact gq hp n hn
       ·exact wc hq n hn
    ·cases h
  ·cases h
theorem mi(l:List (Nat×Value))(k:Nat)(h: ∀i q,l[i]? =some q->q.1=k+i):l=((l.map (·.2)).zipIdx k).map fun p=>(p.2,p.1):=by
 induction l generalizing k with
 |nil=>rfl
 |cons p l ih=>
  obtain⟨i,v⟩:=p;have h0:=h 0 (i,v) rfl;simp only[List.map_cons,List.zipIdx_cons];rw[<-ih (k+1) fun j q hq=>by have:=h (j+1) q (by simpa using hq);omega];simp at h0;simp[h0]
theorem ajl{σ:ASt}: ∀{us vs:List PV} {a:List Nat},gr σ us=some (vs,a)->vs.length=us.length
 |[],vs,a,h=>by cases h;rfl
 |u::us,vs,a,h=>by
  simp only[gr]at h
  cases h1:pur σ u with
  |none=>rw[h1]at h;cases h
  |some p=>
   cases h2:gr σ us with
   |none=>rw[h1,h2]at h;cases h
   |some q=>
    rw[h1,h2]at h;simp only[Option.some.injEq,Prod.mk.injEq]at h;obtain⟨rfl,_⟩:=h;simp[ajl h2]
theorem atz{σ:ASt}{u v:PV}{a:List Nat}(h:pur σ u=some (v,a)):eh v=true:=by
 cases u<;>simp only[pur]at h<;>(try (cases h;done))<;>(try (simp only[Option.some.injEq,Prod.mk.injEq]at h;obtain⟨rfl,_⟩:=h;rfl))
 case fn f cs=>cases cs<;>simp only[pur]at h<;>cases h;rfl
 case os n k=>
  split at h
  ·split at h
   ·simp only[Option.some.injEq,Prod.mk.injEq]at h;obtain⟨rfl,_⟩:=h;rfl
   ·cases h
  ·cases h
theorem u5{σ:ASt}: ∀{us vs:List PV} {a:List Nat},gr σ us=some (vs,a)->vs.all eh=true
 |[],vs,a,h=>by cases h;rfl
 |u::us,vs,a,h=>by
  simp only[gr]at h
  cases h1:pur σ u with
  |none=>rw[h1]at h;cases h
  |some p=>
   cases h2:gr σ us with
   |none=>rw[h1,h2]at h;cases h
   |some q=>
    rw[h1,h2]at h;simp only[Option.some.injEq,Prod.mk.injEq]at h;obtain⟨rfl,_⟩:=h;have hp:pur σ u=some (p.1,p.2):=h1;have hq:gr σ us=some (q.1,q.2):=h2;rw[List.all_cons,atz hp,u5 hq];rfl
theorem afg{σ:ASt}{sz:Nat}: ∀{qs:List (Nat×PV)} {k:Nat} {xs:List (List PV)} {b:List Nat},oc σ sz k qs=some (xs,b)->xs.length=qs.length/\(∀r∈xs,r.length=sz)/\∀r∈xs,r.all eh=true
 |[],k,xs,b,h=>by cases h;simp
 |(i,u)::qs,k,xs,b,h=>by
  simp only[oc]at h;split at h
  ·cases hc:dl u with
   |none=>rw[hc]at h;cases h
   |some us=>
    rw[hc]at h;simp only at h;split at h
    ·rename_i hus
     cases hp:gr σ us with
     |none=>rw[hp]at h;cases h
     |some p=>
      cases hq:oc σ sz (k+1) qs with
      |none=>rw[hp,hq]at h;cases h
      |some q=>
       rw[hp,hq]at h;simp only[Option.some.injEq,Prod.mk.injEq]at h;obtain⟨rfl,_⟩:=h;obtain⟨k1,k2,k3⟩:=afg hq;refine⟨by simp[k1],fun r hr=> ?_,fun r hr=> ?_⟩
       ·rcases List.mem_cons.1 hr with rfl|hr
        ·rw[ajl hp,hus.1]
        ·exact k2 r hr
       ·rcases List.mem_cons.1 hr with rfl|hr
        ·exact u5 hp
        ·exact k3 r hr
    ·cases h
  ·cases h
theorem ym{P:Program}{o:Oper}{ρ:Operand->PV}{σ:ASt}{t e sz len d:Nat}{parts:Array (Nat×Operand)}{xs:List (List PV)}{ns:List Nat}(ho:o.op= .buildSlice t len parts)
  (he:br P t=some e) (hsz:du P e=some sz) (h0:0<sz) (hz:(bk P e).isSome=true) (hlen:len=parts.size) (hbig:len*sz<=16777216) (hr:oc σ sz 0 (parts.toList.map fun p=>(p.1,ρ p.2))=some (xs,ns)) (hd:ah σ d=none):
  LOp P o ρ σ (.os d xs.length) (dj σ ns++[(d,.arr e sz false xs)]) (d::ns):=by
 obtain⟨hl1,hl2,hl3⟩:=afg hr;have hxl:xs.length=len:=by rw[hl1,hlen];simp
 refine r8 hd h0 hl2 hl3 (wc hr) fun x s a hv w hs hW hops=> ?_;obtain⟨zs,hz⟩:=Option.isSome_iff_exists.1 hz;obtain⟨it,z,h1,h2,h3⟩:=fg hz
 let ps:=parts.toList.map fun p=>(p.1,a.eval p.2)
 obtain⟨k1,k2,k3,k4,k5⟩:=vg (ns:=ns) hW _ 0 (ps.map (·.2)) hr hs (fun n hn=>hn) (by simp[ps]) (fun i v q hv' hq=>by
  simp only[ps,List.map_map,List.getElem?_map]at hv' hq
  cases hp:parts.toList[i]? with
  |none=>rw[hp]at hq;cases hq
  |some p=>
   rw[hp]at hq hv'
   cases hq
   cases hv'
   refine hops p.2 ?_;simp only[ho,Op.operands,List.mem_toArray,List.mem_map];simp;exact⟨p.1,by simpa using Array.mem_of_getElem? (by simpa using hp)⟩)
 have hps:ps=((ps.map (·.2)).zipIdx 0).map fun p=>(p.2,p.1):=mi ps 0 fun i q hq=>by
  simp only[ps,List.getElem?_map]at hq
  cases hp:parts.toList[i]? with
  |none=>rw[hp]at hq;cases hq
  |some p=>
   rw[hp]at hq
   cases hq
   exact k4 i (p.1,ρ p.2) (by rw[List.getElem?_map,hp];rfl)
 let zc:Array Value:=if len*sz=0 then #[]else z.cells
 obtain⟨arr,f1,f2,f3,f4⟩:=um (sz:=sz) (ps.map (·.2)) 0 ((Array.range (len*sz)).map (zc[· % zc.size]!)) k3 (by simp[ps,hlen]);have hsl:xs.length=len:=hxl;refine⟨arr,len,?_,by omega,?_,by rw[f2];simp,fun i r j u hr' hu=> ?_⟩
 ·have hmap:(parts.map fun(i,x)=>(i,a.eval x)).toList=ps:=by simp[ps]
  have hzr:(zeroValue e).run P w= .ok z w:=by simp[zeroValue,typeInfo,h1,h2]
  simp only[execOp,ho];rw[Sem.run_bind]
  have hb:(Instr.buildSlice t len (parts.map fun(i,x)=>(i,a.eval x))).run P w= .ok (.slice (some ⟨w.heap.size,0,none⟩) len len) (w.alloc (.cells arr e)):=by
   unfold Instr.buildSlice;simp only[Sem.run_bind,run_underlying (az he),Result.andThen_ok,dq hsz];rw[if_neg (by simp only[Nat.reducePow];omega)];rw[hmap,hps];by_cases hzz:len*sz=0
   ·simp only[zc,hzz,if_true]at f1;simp only[hzz,if_true,Sem.run_bind,Sem.run_pure,Result.andThen_ok,f1];simp[newRow]
   ·simp only[zc,hzz,if_false]at f1;simp only[hzz,if_false,Sem.run_bind,hzr,Sem.run_pure,Result.andThen_ok,f1];simp[newRow]
  rw[hb,hsl];rfl
 ·simp only[maxLen];have:=Nat.le_mul_of_pos_right len h0;omega
 ·have hi:i<xs.length:=(ca.1 hr').1
  have hj:j<sz:=by
   have:=(ca.1 hu).1;rw[hl2 r (List.mem_of_getElem? hr')]at this;exact this
  have hvi:i<(ps.map (·.2)).length:=by simp[ps];omega
  have hv':(ps.map (·.2))[i]? =some ((ps.map (·.2))[i]'hvi):=bf hvi;have hg:=f4 i _ j hv' hj;rw[Nat.zero_add]at hg;have:=k5 i r _ j u hr' hv' hu;rw[Array.getD_eq_getD_getElem?]at this ⊢;rw[hg];exact this
theorem ahb{x:Ctx P}{s:St}{hv:Nat->Value}{w:World}{n off:Nat}{cs us:List PV}{vs:List Value}(hW:SimW x s hv w)(hs:s n=some (.cells cs))(hl:vs.length=us.length)(hle:off+us.length<=cs.length)
  (hr: ∀i u,us[i]? =some u->RV (env x s hv w) (vs.getD i undef) u) (h1: ∀v∈vs,v.oneCell'=true):
  ∃b w',hv n= .pointer (some ⟨b,0,none⟩)/\(storeCells ⟨b,off,none⟩ vs).run P w= .ok () w'/\SimW x (upd s n (some (.cells (cs.take off++us++cs.drop (off+us.length))))) hv w'/\
   Env.le (env x s hv w) (env x (upd s n (some (.cells (cs.take off++us++cs.drop (off+us.length))))) hv w'):=by
 obtain⟨b,t,arr,hb,hg,hsz,hrr⟩:=hW.box n _ hs;have hst:=run_storeCells_at P b off t vs 0 arr w hg (by rw[hsz];omega) h1;simp only[Nat.add_zero]at hst;refine⟨b,_,hb,hst,?_⟩;have hbl:b<w.heap.size:=(Array.getElem?_eq_some_iff.1 hg).1;refine hW.write (B':= .cells (cs.take off++us++cs.drop (off+us.length))) hs ⟨⟨_,rfl⟩,rfl⟩ (fun _ h=>h) rfl rfl rfl (by simp) (fun k hk hne=>setRow_other w b k _ fun e=>hne (by rw[hb,e];rfl)) fun E hE=> ?_;refine⟨b,t,_,hb,setRow_heap w b arr _ t _ hg,?_,fun i u hu=> ?_⟩
 ·simp[hsz,hl]
 ·rw[ip,bq];have htl:(arr.toList.take off).length=off:=by simp[hsz];omega
  have htl':(cs.take off).length=off:=by simp;omega
  rw[List.append_assoc,List.getElem?_append]at hu;rw[List.append_assoc,List.getElem?_append,htl];rw[htl']at hu;by_cases h2:i<off
  ·rw[if_pos h2,List.getElem?_take,if_pos h2]at hu;rw[if_pos h2,List.getElem?_take,if_pos h2];have:=hrr i u hu;simp only[Array.getD_eq_getD_getElem?]at this;simpa using this.mono hE
  ·rw[if_neg h2,List.getElem?_append]at hu;rw[if_neg h2,List.getElem?_append,hl];by_cases h3:i - off<us.length
   ·rw[if_pos h3]at hu ⊢;have:=hr _ u hu;rw[bq]at this;exact this.mono hE
   ·rw[if_neg h3,List.getElem?_drop]at hu;rw[if_neg h3,List.getElem?_drop];rw[show off+us.length+(i - off - us.length)=i by omega]at hu ⊢;have:=hrr i u hu;simp only[Array.getD_eq_getD_getElem?]at this;simpa using this.mono hE
theorem apa{P:Program}{o:Oper}{ρ:Operand->PV}{σ:ASt}{t:TypeId}{y z:Operand}{n off m:Nat}{cs us:List PV}(ho:o.op= .store t y z)(hy:ρ y= .ptr n off)(hB:ah σ n=some (.cells cs))
  (hu:dl (ρ z)=some us) (hm:du P t=some m) (hlen:us.length=m) (hle:off+m<=cs.length) (hone:us.all eh=true):
  LOp P o ρ σ .undef [(n,.cells (cs.take off++us++cs.drop (off+m)))] [n]:=by
 refine⟨by simp,fun s hs x a hv w hW hops next Q hn=> ?_⟩;have hsn:s n=some (.cells cs):=(hs n (by simp)).trans hB;have hv1:=hops y (by simp[ho,Op.operands]);have hv2:=hops z (by simp[ho,Op.operands]);rw[hy]at hv1;obtain⟨_,b,hb,hp⟩:=hv1.ptr_inv;have hcs:=ec hv2 hu
 have hw:=ahb (P:=P) (vs:=(a.eval z).cells.toList) hW hsn (us:=us) (off:=off) (by simpa using hcs.1) (by omega) (fun i u hi=>by have:=hcs.2 i u hi;rw[Array.getD_eq_getD_getElem?]at this;simpa [bq] using this)
  (fun v hvm=>by
   obtain⟨i,hi,hvi⟩:=List.mem_iff_getElem.1 hvm;have hi':i<us.length:=by rw[<-hcs.1];simpa using hi
   have h1:=hcs.2 i us[i] (bf hi')
   have h2:(a.eval z).cells.getD i undef=v:=by
    rw[Array.getD_eq_getD_getElem?];have:(a.eval z).cells[i]? =some v:=by rw[<-hvi];simp at hi;simp[hi]
    rw[this];rfl
   rw[h2]at h1;exact(gy h1 (List.all_eq_true.1 hone _ (List.getElem_mem hi'))).1)
 obtain⟨b',w',hb',hst,hS,hE⟩:=hw;rw[hb]at hb'
 cases hb'
 unfold Oper.wp
 have hrun:(execOp a.eval o).run P w= .ok .skip w':=by
  simp only[execOp,ho,hp,Instr.storeAt,Instr.sureAddr];rw[Sem.run_bind,Sem.run_bind,Sem.run_pure,Result.andThen_ok];unfold storeVar;rw[Sem.run_bind,dq hm];simp only[Result.andThen_ok];rw[if_neg (by rw[hcs.1,hlen];simp),hst];rfl
 rw[hrun,Oper.upon_skip];rw[hlen]at hS hE;exact hn undef hv w' hS hE (.undef _)
end Go.Proofs.Am

/- Operations on abstract values: stores into slices, append, make, and some small ones. -/
namespace Go.Proofs.Am
open Go Go.RowKit
variable {P:Program}
theorem im{w:World}{e sz n:Nat}{v:Value}{ys:List Value}(h:OwnM P w e sz v n ys)(hn:0<n): ∃g cap cur fz,v= .slice (some ⟨g,0,none⟩) n cap/\(fz=(0,0)\/ans P e/\fz=(cur.size,cur.size+1))/\w.heap[g]? =some (.cells cur e fz)/\n<=cap/\cap<=maxLen/\cur.size=cap*sz/\cur.toList.take (n*sz)=ys:=by
 rcases h.2 with ⟨_,h0⟩|h
 ·omega
 ·exact h
theorem agp{P:Program}{o:Oper}{ρ:Operand->PV}{σ:ASt}{t:TypeId}{y z:Operand}{n k i off m e sz:Nat}{xs:List (List PV)}{us us':List PV}{ns:List Nat}(ho:o.op= .store t y z)(hy:ρ y= .oel n k i off)
  (hB:ah σ n=some (.arr e sz false xs)) (hk:k=xs.length) (hi:i<k) (hu:dl (ρ z)=some us) (hp:gr σ us=some (us',ns)) (hnn:n∉ns) (hm:du P t=some m) (hlen:us.length=m) (hle:off+m<=sz) (hone:us.all eh=true):
  LOp P o ρ σ .undef (dj σ ns++[(n,.arr e sz false (xs.set i ((xs.getD i []).take off++us'++(xs.getD i []).drop (off+m))))]) (n::ns):=by
 have happ: ∀(δ ε:ASt) (s:St),app s (δ++ε)=app (app s δ) ε:=by
  intro δ
  induction δ with
  |nil=>intro ε s;rfl
  |cons p δ ih=>intro ε s;obtain⟨n,B⟩:=p;simp[app,ih]
 refine⟨fun p hp=> ?_,fun s hs x a hv w hW hops next Q hn=> ?_⟩
 ·rcases List.mem_append.1 hp with hp|hp
  ·obtain⟨n,hn,rfl⟩:=List.mem_map.1 hp;simp[hn]
  ·simp at hp;subst hp;simp
 ·have hsns: ∀n∈ns,s n=ah σ n:=fun n hn=>hs n (by simp[hn]);have hsn:s n=some (.arr e sz false xs):=(hs n (by simp)).trans hB;have hsh:=hW.shared (dp s ns)
  have hap:app s (dj σ ns)=ar s ns:=md fun n hn=>by
   obtain⟨B,hB⟩:=gq hp n hn;exact⟨B,(hsns n hn).trans hB,.inl hB.symm⟩
  have hsn':ar s ns n=some (.arr e sz false xs):=by simp[ar,hnn,hsn]
  have hv1:=hops y (by simp[ho,Op.operands]);have hv2:=hops z (by simp[ho,Op.operands]);rw[hy]at hv1;obtain⟨_,e',sz',sh',xs',h1,h2,h3⟩:=hv1.oel_arr hsn;rw[hsn]at h1
  cases h1
  obtain⟨b,c,hb,hpv⟩:=h3 hk hi;have hcs:=ec hv2 hu;obtain⟨hpl,hpr⟩:=dh (ns:=ns) hW hsns hp (fun n hn=>hn);obtain⟨h0,ys,hy0,hlens,hones,hrr⟩:=hsh.1.box n _ hsn';obtain⟨g,cap,cur,fz,hg1,hfz,hg2,hg3,hg4,hg5,hg6⟩:=im hy0 (by omega);rw[hb]at hg1
  cases hg1
  let vs:=(a.eval z).cells.toList
  have hvl:vs.length=m:=by simp[vs];rw[hcs.1,hlen]
  have hvs: ∀j u,us[j]? =some u->RV (env x s hv w) (vs.getD j undef) u:=fun j u hj=>by have:=hcs.2 j u hj;rw[Array.getD_eq_getD_getElem?]at this;simpa [vs,bq] using this
  have hone': ∀v∈vs,v.oneCell'=true:=fun v hvm=>by
   obtain⟨j,hj,hvj⟩:=List.mem_iff_getElem.1 hvm;have hj':j<us.length:=by omega
   have h1:=hvs j us[j] (bf hj');have h2:vs.getD j undef=v:=by rw[bq,bf hj,hvj];rfl
   rw[h2]at h1;exact(gy h1 (List.all_eq_true.1 hone _ (List.getElem_mem hj'))).1
  have hix:i<xs.length:=by omega
  have hrow:(xs.getD i []).length=sz:=hlens _ (List.mem_of_getElem? (by rw[bq,bf hix];rfl:xs[i]? =some (xs.getD i [])))
  have hlt:i*sz+(off+m)<=xs.length*sz:=by
   have:(i+1)*sz<=xs.length*sz:=Nat.mul_le_mul_right _ hix;rw[Nat.add_mul]at this;omega
  have hcap:xs.length*sz<=c*sz:=Nat.mul_le_mul_right _ hg3;have hst:=bx P b (i*sz+off) e fz vs 0 cur w hg2 (rh hfz) (by rw[hg5,hvl];omega) hone';simp only[Nat.add_zero]at hst
  let row':=(xs.getD i []).take off++us'++(xs.getD i []).drop (off+m)
  have hus':us'.length=m:=by rw[hpl,hlen]
  have hrow':row'.length=sz:=by simp only[row',List.length_append,List.length_take,List.length_drop,hrow,hus'];omega
  let cur':=(cur.toList.take (i*sz+off)++vs++cur.toList.drop (i*sz+off+vs.length)).toArray
  have hcs':cur'.size=cur.size:=by simp[cur',hvl];omega
  have hW':=hsh.1.write (w':=w.setRow b cur') (B':= .arr e sz false (xs.set i row')) hsn' (by simp[Box.keep,Box.dim]) (fun off h=>h) rfl rfl rfl (by simp) (fun k hk hne=>setRow_other w b k _ fun e=>hne (by rw[hb,e];rfl)) fun E hE=>by
   have hcget: ∀j,cur'[j]? =if j<i*sz+off then cur[j]? else if j<i*sz+off+m then vs[j - (i*sz+off)]? else cur[j]?:=fun j=>by
    simp only[cur',List.getElem?_toArray];rw[List.append_assoc,List.getElem?_append];have htl:(cur.toList.take (i*sz+off)).length=i*sz+off:=by simp[hg5];omega
    rw[htl];by_cases h2:j<i*sz+off
    ·rw[if_pos h2,if_pos h2,List.getElem?_take,if_pos h2];simp
    ·rw[if_neg h2,if_neg h2,List.getElem?_append,hvl];by_cases h3:j<i*sz+off+m
     ·rw[if_pos h3,if_pos (by omega)]
     ·rw[if_neg h3,if_neg (by omega),List.getElem?_drop,show i*sz+off+m+(j - (i*sz+off) - m)=j by omega];simp
   refine⟨h0,cur'.toList.take (xs.length*sz),?_,?_,?_,fun p r j u hr hu=> ?_⟩
   ·rw[List.length_set];exact⟨by simp[hcs',hg5,hcap],.inr ⟨b,c,cur',fz,hb,by rw[hcs'];exact hfz,setRow_heap w b cur cur' e _ hg2,hg3,hg4,by rw[hcs',hg5],rfl⟩⟩
   ·intro r hr;rcases List.mem_or_eq_of_mem_set hr with hr|hr
    ·exact hlens r hr
    ·rw[hr,hrow']
   ·intro r hr;rcases List.mem_or_eq_of_mem_set hr with hr|hr
    ·exact hones r hr
    ·have hro:=hones _ (List.mem_of_getElem? (by rw[bq,bf hix];rfl:xs[i]? =some (xs.getD i [])));rw[hr];simp only[row',List.all_append,u5 hp,Bool.and_true,Bool.and_eq_true];exact⟨List.all_eq_true.2 fun u hu=>List.all_eq_true.1 hro u (List.mem_of_mem_take hu),List.all_eq_true.2 fun u hu=>List.all_eq_true.1 hro u (List.mem_of_mem_drop hu)⟩
   ·have hpl:p<xs.length:=by have:=(ca.1 hr).1;rwa [List.length_set]at this
    have hrl:r.length=sz:=by
     rcases List.mem_or_eq_of_mem_set (List.mem_of_getElem? hr)with hr|hr
     ·exact hlens r hr
     ·rw[hr,hrow']
    have hjl:j<sz:=by have:=(ca.1 hu).1;rwa [hrl]at this
    rw[List.getElem?_set]at hr;have hlt2:=gm hpl hjl
    have hgetD:(cur'.toList.take (xs.length*sz)).getD (p*sz+j) undef=(cur'[p*sz+j]?).getD undef:=by
     rw[bq,List.getElem?_take,if_pos hlt2];simp
    have hold: ∀q j' u',xs[q]? =some r\/True->∀r',xs[q]? =some r'->r'[j']? =some u'->RP E.pc ((cur[q*sz+j']?).getD undef) u':=fun q j' u' _ r' hr' hu'=>by
     have hq:q<xs.length:=(ca.1 hr').1
     have hj':j'<sz:=by
      have:=(ca.1 hu').1;rw[hlens r' (List.mem_of_getElem? hr')]at this;exact this
     have h4:=hrr q r' j' u' hr' hu';rw[<-hg6,bq,List.getElem?_take,if_pos (gm hq hj')]at h4;simpa using h4.mono hE.pc
    rw[hgetD,hcget];by_cases hpi:i=p
    ·subst hpi;rw[if_pos rfl,if_pos hix]at hr
     cases hr
     have hg:xs[i]? =some (xs.getD i []):=by rw[bq,bf hix];rfl
     simp only[row']at hu;rw[List.append_assoc,List.getElem?_append]at hu;have htl:((xs.getD i []).take off).length=off:=by rw[List.length_take,hrow];omega
     rw[htl]at hu;by_cases h2:j<off
     ·rw[if_pos h2,List.getElem?_take,if_pos h2]at hu;rw[if_pos (by omega)];exact hold i j u (.inr trivial) _ hg hu
     ·rw[if_neg h2,List.getElem?_append,hus']at hu;rw[if_neg (by omega)];by_cases h3:j<off+m
      ·rw[if_pos (by omega)]at hu;rw[if_pos (by omega),show i*sz+j - (i*sz+off)=j - off by omega];have hj2:j - off<us.length:=by omega
       have h5:=hpr (j - off) us[j - off] u (bf hj2) hu _ (hvs (j - off) us[j - off] (bf hj2));rw[bq]at h5;exact h5.mono hE.pc
      ·rw[if_neg (by omega),List.getElem?_drop,show off+m+(j - off - m)=j by omega]at hu;rw[if_neg (by omega)];exact hold i j u (.inr trivial) _ hg hu
    ·rw[if_neg hpi]at hr
     have hdis:p*sz+j<i*sz+off\/i*sz+off+m<=p*sz+j:=by
      rcases Nat.lt_or_gt_of_ne hpi with h|h
      ·right;have:(i+1)*sz<=p*sz:=Nat.mul_le_mul_right _ h;rw[Nat.add_mul]at this;omega
      ·left;have:(p+1)*sz<=i*sz:=Nat.mul_le_mul_right _ h;rw[Nat.add_mul]at this;omega
     rcases hdis with h|h
     ·rw[if_pos h];exact hold p j u (.inr trivial) r hr hu
     ·rw[if_neg (by omega),if_neg (by omega)];exact hold p j u (.inr trivial) r hr hu
  unfold Oper.wp
  have hrun:(execOp a.eval o).run P w= .ok .skip (w.setRow b cur'):=by
   simp only[execOp,ho,hpv,Instr.storeAt,Instr.sureAddr];rw[Sem.run_bind,Sem.run_bind,Sem.run_pure,Result.andThen_ok];unfold storeVar;rw[Sem.run_bind,dq hm];simp only[Result.andThen_ok];rw[if_neg (by rw[hcs.1,hlen];simp),hst];rfl
  rw[hrun,Oper.upon_skip];refine hn undef hv _ ?_ ?_ (.undef _)
  ·rw[happ,hap];exact hW'.1
  ·rw[happ,hap];exact hsh.2.trans hW'.2
theorem cj{P:Program}{w:World}(size m:Nat)(a:Addr)(l c:Nat)(news:List Value)(hl:news.length=m*size)(h: ∀j u,news[j]? =some u->w.cell? (a.add j)=some u):
  (Builtin.firstCells size m (.slice (some a) l c)).run P w= .ok news.toArray w:=by
 have:=run_loadCells_list (P:=P) w a news h;rw[hl]at this;exact this
theorem a4w{P:Program}{w:World}{E:Env}(hE: ∀a v,E.pc a v->w.cell? a=some v){x:Ctx P}{s:St}{hv:Nat->Value}(hE0:E.pc=(env x s hv w).pc){v:Value}{ys:List (List PV)}{sz:Nat}(h:RP E.pc v (.vs ys))(hsz: ∀y∈ys,y.length=sz):
  ∃news,Src P w sz v ys.length news/\∀i r j u,ys[i]? =some r->r[j]? =some u->RP E.pc (news.getD (i*sz+j) undef) u:=by
 obtain⟨a,c,sz',U,rfl,hc,hs,hone,hA,hr⟩:=h.vs_inv;rcases Nat.eq_zero_or_pos ys.length with h0|h0
 ·have hys:ys=[]:=List.eq_nil_of_length_eq_zero h0;subst hys;refine⟨[],⟨fun w'=>rfl,?_,?_,by simp,by simp⟩,by simp⟩
  ·cases a<;>simp[Builtin.firstCells,loadCells,loadCellsFrom]
  ·cases a<;>simp[Builtin.firstCells,loadCells,loadCellsFrom]
 ·obtain⟨ad,rfl,hA'⟩:=hA h0
  have hss:sz'=sz:=by
   have hm:=List.getElem_mem h0;rw[<-hs _ hm,hsz _ hm]
  subst hss
  have hrow: ∀p,p<ys.length*sz'->∃r u,ys[p/sz']? =some r/\r[p % sz']? =some u:=fun p hp=>by
   have hsp:0<sz':=by
    rcases Nat.eq_zero_or_pos sz' with h|h
    ·subst h;simp at hp
    ·exact h
   have h1:p/sz'<ys.length:=Nat.div_lt_of_lt_mul (by rw[Nat.mul_comm];exact hp);have h2:p % sz'<(ys[p/sz']).length:=by rw[hs _ (List.getElem_mem h1)];exact Nat.mod_lt _ hsp
   exact⟨ys[p/sz'],(ys[p/sz'])[p % sz'],bf h1,bf h2⟩
  let news:=(List.range (ys.length*sz')).map fun p=>U (p/sz') (p % sz')
  have hget: ∀p u,news[p]? =some u->p<ys.length*sz'/\u=U (p/sz') (p % sz'):=fun p u hp=>by
   simp only[news,List.getElem?_map]at hp
   cases hq:(List.range (ys.length*sz'))[p]? with
   |none=>rw[hq]at hp;cases hp
   |some q=>
    have hlt:p<ys.length*sz':=by have:=(ca.1 hq).1;simpa using this
    rw[List.getElem?_range hlt]at hq
    cases hq
    rw[List.getElem?_range hlt]at hp
    cases hp
    exact⟨hlt,rfl⟩
  have hcell: ∀p u,news[p]? =some u->w.cell? (ad.add p)=some u:=fun p u hp=>by
   obtain⟨hlt,rfl⟩:=hget p u hp;obtain⟨r,q,h1,h2⟩:=hrow p hlt;have:=hE _ _ (hA' _ r _ q h1 h2)
   rwa [Nat.mul_comm,Nat.div_add_mod]at this
  refine⟨news,⟨fun w'=>rfl,cj sz' _ ad _ c news (by simp[news]) hcell,cj sz' _ ad _ c news (by simp[news]) (fun p u hp=>by simpa using hcell p u hp),by simp[news],fun u hu=> ?_⟩,fun i r j u hr' hu=> ?_⟩
  ·obtain⟨p,hp,hpu⟩:=List.mem_iff_getElem.1 hu;obtain⟨hlt,rfl⟩:=hget p u (by rw[bf hp,hpu]);obtain⟨r,q,h1,h2⟩:=hrow p hlt;have hRP:=hr _ r _ q h1 h2;rw[hE0]at hRP;exact(gy (.pure hRP) (List.all_eq_true.1 (hone r (List.mem_of_getElem? h1)) q (List.mem_of_getElem? h2))).1
  ·have hi:i<ys.length:=(ca.1 hr').1
   have hj:j<sz':=by
    have:=(ca.1 hu).1;rw[hs r (List.mem_of_getElem? hr')]at this;exact this
   have hlt:=gm hi hj;have hsp:0<sz':=by omega
   have hdiv:(i*sz'+j)/sz'=i:=by rw[Nat.mul_comm,Nat.mul_add_div hsp,Nat.div_eq_of_lt hj,Nat.add_zero]
   have hmod:(i*sz'+j) % sz'=j:=by rw[Nat.mul_comm,Nat.mul_add_mod,Nat.mod_eq_of_lt hj]
   have:news.getD (i*sz'+j) undef=U i j:=by
    rw[bq];simp only[news,List.getElem?_map,List.getElem?_range hlt,Option.map_some,Option.getD_some,hdiv,hmod]
   rw[this];exact hr i r j u hr' hu
end Go.Proofs.Am

/- Operations on abstract values: append, make, and some small ones. -/
namespace Go.Proofs.Am
open Go Go.RowKit
variable {P:Program}
def ua(P:Program)(E:Env)(w:World)(sz:Nat)(v:Value)(ys:List (List PV)):Prop:=
 (∀y∈ys,y.length=sz)/\(∀y∈ys,y.all eh=true)/\∃news,Src P w sz v ys.length news/\∀i r j u,ys[i]? =some r->r[j]? =some u->RP E.pc (news.getD (i*sz+j) undef) u
theorem qj{P:Program}{x:Ctx P}{s:St}{hv:Nat->Value}{w:World}{v:Value}{ys:List (List PV)}{sz:Nat}(h:RP (env x s hv w).pc v (.vs ys))(hsz: ∀y∈ys,y.length=sz):ua P (env x s hv w) w sz v ys:=by
 obtain⟨a,c,sz',U,_,hc,hs,hone,_⟩:=h.vs_inv;exact⟨hsz,hone,a4w (E:=env x s hv w) (fun a v hp=>hp.1) rfl h hsz⟩
theorem ai4{P:Program}{x:Ctx P}{s:St}{hv:Nat->Value}{w:World}(hW:SimW x s hv w){n k e sz:Nat}{sh:Bool}{xs:List (List PV)}(hs:s n=some (.arr e sz sh xs))(hk:k=xs.length){v:Value}(hv0:RV (env x s hv w) v (.os n k)):
  ua P (env x s hv w) w sz v xs:=by
 obtain⟨_,e',sz',sh',xs',h1,h2,h3⟩:=hv0.os_arr hs;rw[hs]at h1
 cases h1
 rw[h3 hk];obtain⟨h0,ys,hy,hl,hone,hr⟩:=hW.box n _ hs;refine⟨hl,hone,ys,?_,hr⟩
 have h1y: ∀u∈ys,u.oneCell'=true:=fun u hu=>by
  obtain⟨p,hp,hpu⟩:=List.mem_iff_getElem.1 hu;have hp':p<xs.length*sz:=by rw[<-hy.1];exact hp
  have hi:p/sz<xs.length:=Nat.div_lt_of_lt_mul (by rw[Nat.mul_comm];exact hp');have hj:p % sz<(xs[p/sz]).length:=by rw[hl _ (List.getElem_mem hi)];exact Nat.mod_lt _ h0
  have h4:=hr (p/sz) _ (p % sz) _ (bf hi) (bf hj);rw[Nat.mul_comm,Nat.div_add_mod,bq,bf hp,hpu]at h4;exact(gy (.pure h4) (List.all_eq_true.1 (hone _ (List.getElem_mem hi)) _ (List.getElem_mem hj))).1
 rcases hy.2 with ⟨hq,hz⟩|⟨g,cap,cur,fz,hq,_⟩
 ·have hx:ys=[]:=List.eq_nil_of_length_eq_zero (by rw[hy.1,hz,Nat.zero_mul]);subst hx;rw[hq,hz];exact⟨fun _=>rfl,rfl,rfl,by simp,h1y⟩
 ·rw[hq];rw[hq]at hy;have hc:=hy.cells (g:=g) rfl;exact⟨fun _=>rfl,cj sz _ _ _ _ ys hy.1 hc,cj sz _ _ _ _ ys hy.1 hc,hy.1,h1y⟩
theorem ac9{P:Program}{x:Ctx P}{s:St}{hv:Nat->Value}{w:World}{l:List UInt8}:ua P (env x s hv w) w 1 (.string ⟨l.toArray⟩) (bo l):=by
 have hl:(bo l).length=l.length:=by simp[bo]
 have hc: ∀w':World,(Builtin.firstCells 1 l.length (.string ⟨l.toArray⟩)).run P w'= .ok (l.map fun b=>Value.int .u8 (b.toNat:Int)).toArray w':=fun w'=>by
  simp only[Builtin.firstCells,Sem.run_pure];congr 1;have:(ByteArray.extract ⟨l.toArray⟩ 0 l.length).data=l.toArray:=by simp[ByteArray.data_extract]
  rw[this];simp
 refine⟨by simp[bo],by simp[bo,eh],l.map fun b=> .int .u8 (b.toNat:Int),⟨fun w'=>by simp[Builtin.lenOf,j4,hl],by rw[hl];exact hc w,by rw[hl];exact hc w.drew,by simp[hl],by simp[Value.oneCell']⟩,fun i r j u hr hu=> ?_⟩;obtain⟨b,hb,rfl⟩: ∃b,l[i]? =some b/\[PV.int .u8 (b.toNat:Int)]=r:=by simpa [bo] using hr
 have hj:j=0:=by
  have:=(ca.1 hu).1;simp at this;exact this
 subst hj;simp at hu;subst hu
 have:(l.map fun b=>Value.int .u8 (b.toNat:Int)).getD (i*1+0) undef= .int .u8 (b.toNat:Int):=by
  rw[bq];simp[hb]
 rw[this];exact .int _ _
theorem y7{P:Program}{x:Ctx P}{s:St}{hv:Nat->Value}{w:World}{sz:Nat}:ua P (env x s hv w) w sz (.slice none 0 0) []:=
 ⟨by simp,by simp,[],⟨fun _=>rfl,rfl,rfl,by simp,by simp⟩,by simp⟩
theorem iq{ys zs:List Value}{m:Nat}(h:m<ys.length):(ys++zs).getD m undef=ys.getD m undef:=by
 rw[bq,List.getElem?_append_left h,<-bq]
theorem ow{pc:Addr->Value->Prop}{sz:Nat}{xs zs:List (List PV)}{ys news:List Value}(hl:ys.length=xs.length*sz)(hxs: ∀i x j u,xs[i]? =some x->x[j]? =some u->RP pc (ys.getD (i*sz+j) undef) u)
  (hlx: ∀x∈xs,x.length=sz) (hzs: ∀i x j u,zs[i]? =some x->x[j]? =some u->RP pc (news.getD (i*sz+j) undef) u):
  ∀i x j u,(xs++zs)[i]? =some x->x[j]? =some u->RP pc ((ys++news).getD (i*sz+j) undef) u:=by
 intro i x j u hx hu;rw[List.getElem?_append]at hx;by_cases h:i<xs.length
 ·rw[if_pos h]at hx
  have hj:j<sz:=by
   have:=(ca.1 hu).1;rw[hlx x (List.mem_of_getElem? hx)]at this;exact this
  rw[iq (by rw[hl];exact gm h hj)];exact hxs i x j u hx hu
 ·rw[if_neg h]at hx
  have hge:ys.length<=i*sz+j:=by
   rw[hl];have:xs.length*sz<=i*sz:=Nat.mul_le_mul_right _ (by omega);omega
  rw[bq,List.getElem?_append_right hge,<-bq,hl]
  have:i*sz+j - xs.length*sz=(i - xs.length)*sz+j:=by
   rw[Nat.sub_mul];have:xs.length*sz<=i*sz:=Nat.mul_le_mul_right _ (by omega);omega
  rw[this];exact hzs _ x j u hx hu
structure AppT(P:Program)(t tx e sz bytes:Nat):Prop where
 ht:br P t=some e
 hsz:du P e=some sz
 hby:bytesOf P e=some bytes
 hz: ∃zs,bk P e=some zs/\zs.length=sz
 h0:0<sz
 hb0:0<bytes
 htx:ay P tx=true\/fx P tx=true
theorem AppT.run{P:Program}{t tx e sz bytes ty:Nat}(h:AppT P t tx e sz bytes){w:World}{v:Value}{n:Nat}{xs:List Value}(hown:OwnM P w e sz v n xs){x:Value}{m:Nat}{news:List Value}(hs:Src P w sz x m news)(hbytes:(n+m)*bytes<=140737488355328):
  ∃v' w',(Builtin.append_ #[t,tx] ty #[v,x]).run P w= .ok v' w'/\OwnM P w' e sz v' (n+m) (xs++news)/\w.grownBy w' v.ownBlock/\
   (blk v'=blk v\/∃b,blk v'=some b/\w.heap.size<=b)/\(m=0->v'=v)/\
   ∀b j u,blk v=some b->j<n*sz->w.cell? ⟨b,j,none⟩=some u->w'.cell? ⟨b,j,none⟩=some u:=by
 obtain⟨zs,hz,hzl⟩:=h.hz;obtain⟨it,z,h1,h2,h3⟩:=fg hz;have hsz:=h.hsz;have hby:=h.hby;simp only[du,h1,Option.map_some,Option.some.injEq]at hsz;simp only[bytesOf,h1,Option.map_some,Option.some.injEq]at hby
 have htx: ∃d,P.underlying tx=some d/\∀k,d≠ .int k:=by
  rcases h.htx with hh|hh
  ·obtain⟨e',he'⟩:=Option.isSome_iff_exists.1 hh;exact⟨_,az he',fun k hk=>by cases hk⟩
  ·exact⟨_,fj hh,fun k hk=>by cases hk⟩
 obtain⟨d,hd1,hd2⟩:=htx;exact al8 t tx ty e d it z sz bytes (az h.ht) hd1 hd2 h1 h2 hsz hby (by rw[<-h3]at hzl;simpa using hzl) h.h0 h.hb0 v n xs hown x m news hs hbytes
theorem acm{P:Program}{o:Oper}{ρ:Operand->PV}{σ:ASt}{t tx e sz bytes:Nat}{y z:Operand}{n k:Nat}{sh:Bool}{xs ys:List (List PV)}{F:List Nat}(ho:o.op= .call {callee:= .builtin .append,args:= #[y,z],argTypes:= #[t,tx]})
  (hT:AppT P t tx e sz bytes) (hy:ρ y= .os n k) (hB:ah σ n=some (.arr e sz sh xs)) (hk:k=xs.length) (hbytes:(xs.length+ys.length)*bytes<=140737488355328)
  (hz: ∀(s:St),(∀m∈F,s m=ah σ m)->∀(x:Ctx P) hv w v,SimW x s hv w->RV (env x s hv w) v (ρ z)->ua P (env x s hv w) w sz v ys):
  LOp P o ρ σ (.os n (k+ys.length)) [(n,.arr e sz sh (xs++ys))] (n::F):=by
 refine⟨by simp,fun s hs x a hv w hW hops next Q hnx=> ?_⟩;have hsn:s n=some (.arr e sz sh xs):=(hs n (by simp)).trans hB;have hv1:=hops y (by simp[ho,Op.operands,Call.operands]);have hv2:=hops z (by simp[ho,Op.operands,Call.operands]);rw[hy]at hv1;obtain⟨_,e',sz',sh',xs',h1,h2,h3⟩:=hv1.os_arr hsn;rw[hsn]at h1
 cases h1
 have hvy:=h3 hk;obtain⟨hl2,ho2,news,hsrc,hnr⟩:=hz s (fun m hm=>hs m (by simp[hm])) x hv w _ hW hv2;obtain⟨h0,vs,hown,hl1,ho1,hr1⟩:=hW.box n _ hsn;obtain⟨v',w',hrun,k1,k2,k3,k4,k5⟩:=hT.run (ty:=o.type) hown hsrc hbytes
 have hG:=hW.grow (zs:=ys) (v':=v') hsn k2 k5 k3 (fun hz=>k4 (by simp[hz])) fun E hE=>by
  refine⟨h0,vs++news,by rw[List.length_append];exact k1,?_,?_,?_⟩
  ·intro r hr;rcases List.mem_append.1 hr with hr|hr
   ·exact hl1 r hr
   ·exact hl2 r hr
  ·intro r hr;rcases List.mem_append.1 hr with hr|hr
   ·exact ho1 r hr
   ·exact ho2 r hr
  ·exact ow hown.1 (fun i r j u hr hu=>(hr1 i r j u hr hu).mono hE.pc) hl1 (fun i r j u hr hu=>(hnr i r j u hr hu).mono hE.pc)
 unfold Oper.wp
 have hex:(execOp a.eval o).run P w= .ok (.value v') w':=by
  simp[execOp,ho,resolve,invoke,builtin,hvy,hrun]
 rw[hex,Oper.upon_value]
 have hshape: ∃a c,v'= .slice a (k+ys.length) c:=by
  rcases k1.2 with ⟨hq,hz⟩|⟨g,cap,cur,fz,hq,_⟩
  ·exact⟨none,0,by rw[hq,show k+ys.length=0 by omega]⟩
  ·exact⟨_,cap,by rw[hq,hk]⟩
 refine hnx v' _ w' hG.1 hG.2 (.os ⟨hshape,.arr e sz sh (xs++ys),sz,_,by simp[app],rfl,?_,fun _=>by simp⟩);rw[List.length_append,hk];exact Nat.le_refl _
theorem vv{P:Program}{o:Oper}{ρ:Operand->PV}{σ:ASt}{t tx e sz bytes:Nat}{y z:Operand}{d:Nat}{ys:List (List PV)}{F:List Nat}(ho:o.op= .call {callee:= .builtin .append,args:= #[y,z],argTypes:= #[t,tx]})
  (hT:AppT P t tx e sz bytes) (hy:ρ y= .nils) (hd:ah σ d=none) (hbytes:ys.length*bytes<=140737488355328)
  (hz: ∀(s:St),(∀m∈F,s m=ah σ m)->∀(x:Ctx P) hv w v,SimW x s hv w->RV (env x s hv w) v (ρ z)->ua P (env x s hv w) w sz v ys):
  LOp P o ρ σ (.os d ys.length) [(d,.arr e sz false ys)] (d::F):=by
 refine⟨by simp,fun s hs x a hv w hW hops next Q hnx=> ?_⟩;have hsd:s d=none:=(hs d (by simp)).trans hd;have hv1:=hops y (by simp[ho,Op.operands,Call.operands]);have hv2:=hops z (by simp[ho,Op.operands,Call.operands]);rw[hy]at hv1;have hvy:=hv1.nils_inv;obtain⟨hl2,ho2,news,hsrc,hnr⟩:=hz s (fun m hm=>hs m (by simp[hm])) x hv w _ hW hv2;obtain⟨v',w',hrun,k1,k2,k3,k4,k5⟩:=hT.run (ty:=o.type) (OwnM.nil P w e sz) hsrc (by simpa using hbytes);simp only[Nat.zero_add,List.nil_append]at k1
 have hN:=hW.new (hd:=v') (B:= .arr e sz false ys) hsd k2.os k2.tape k2.output k2.size (fun b hb=>k2.block b hb (by simp[Value.ownBlock])) (fun b hb=>by
  rcases k3 with h|⟨b',h,h'⟩
  ·rw[h]at hb;cases hb
  ·rw[h]at hb;cases hb;exact h') fun E hE=>⟨hT.h0,news,k1,hl2,ho2,fun i r j u hr hu=>(hnr i r j u hr hu).mono hE.pc⟩
 unfold Oper.wp
 have hex:(execOp a.eval o).run P w= .ok (.value v') w':=by
  simp[execOp,ho,resolve,invoke,builtin,hvy,hrun]
 rw[hex,Oper.upon_value]
 have hshape: ∃a c,v'= .slice a ys.length c:=by
  rcases k1.2 with ⟨hq,hz⟩|⟨g,cap,cur,fz,hq,_⟩
  ·exact⟨none,0,by rw[hq,hz]⟩
  ·exact⟨_,cap,hq⟩
 exact hnx v' _ w' hN.1 hN.2 (.os ⟨hshape,.arr e sz false ys,sz,_,by simp[app],rfl,Nat.le_refl _,fun _=>by simp⟩)
theorem AppT.und{P:Program}{t tx e sz bytes:Nat}(h:AppT P t tx e sz bytes): ∃d,P.underlying tx=some d/\∀k,d≠ .int k:=by
 rcases h.htx with hh|hh
 ·obtain⟨e',he'⟩:=Option.isSome_iff_exists.1 hh;exact⟨_,az he',fun k hk=>by cases hk⟩
 ·exact⟨_,fj hh,fun k hk=>by cases hk⟩
theorem RV.vx_inv{E:Env}{v:Value}{xs:List (List PV)}(h:RV E v (.vx xs)): ∃a n,v= .slice a n n/\RP E.pc v (.vs xs):=by
 cases h with
 |pure hq=>cases hq
 |vx hv h=>exact⟨_,_,hv,h⟩
theorem ab5{P:Program}{o:Oper}{ρ:Operand->PV}{σ:ASt}{t tx e sz bytes:Nat}{y z:Operand}{d:Nat}{xs ys:List (List PV)}{F:List Nat}(ho:o.op= .call {callee:= .builtin .append,args:= #[y,z],argTypes:= #[t,tx]})
  (hT:AppT P t tx e sz bytes) (hy:ρ y= .vx xs) (hd:ah σ d=none) (hxs: ∀x∈xs,x.length=sz) (hys:0<ys.length) (hbytes:(xs.length+ys.length)*bytes<=140737488355328)
  (hz: ∀(s:St),(∀m∈F,s m=ah σ m)->∀(x:Ctx P) hv w v,SimW x s hv w->RV (env x s hv w) v (ρ z)->ua P (env x s hv w) w sz v ys):
  LOp P o ρ σ (.os d (xs.length+ys.length)) [(d,.arr e sz false (xs++ys))] (d::F):=by
 refine⟨by simp,fun s hs x a hv w hW hops next Q hnx=> ?_⟩;have hsd:s d=none:=(hs d (by simp)).trans hd;have hv1:=hops y (by simp[ho,Op.operands,Call.operands]);have hv2:=hops z (by simp[ho,Op.operands,Call.operands]);rw[hy]at hv1;obtain⟨a0,n0,hvy,hvs⟩:=hv1.vx_inv;obtain⟨hl1,ho1,olds,hsrc1,hor⟩:=qj hvs hxs;obtain⟨hl2,ho2,news,hsrc,hnr⟩:=hz s (fun m hm=>hs m (by simp[hm])) x hv w _ hW hv2
 have hn0:n0=xs.length:=by
  have h1:=hsrc1.len w;rw[hvy]at h1;simpa [Builtin.lenOf] using h1
 subst hn0;rw[hvy]at hsrc1;obtain⟨zs,hzz,hzl⟩:=hT.hz;obtain⟨it,zv,h1,h2,h3⟩:=fg hzz;have hsz:=hT.hsz;have hby:=hT.hby;simp only[du,h1,Option.map_some,Option.some.injEq]at hsz;simp only[bytesOf,h1,Option.map_some,Option.some.injEq]at hby;obtain⟨de,hd1,hd2⟩:=hT.und;obtain⟨v',w',hrun,k1,k2,b0,k3,k4⟩:=ain t tx o.type e de it zv sz bytes (az hT.ht) hd1 hd2 h1 h2 hsz hby (by rw[<-h3]at hzl;simpa using hzl) hT.hb0 a0 xs.length olds hsrc1 _ ys.length hys news hsrc hbytes
 have hN:=hW.new (hd:=v') (B:= .arr e sz false (xs++ys)) hsd k2.os k2.tape k2.output k2.size (fun b hb=>k2.block b hb (by simp)) (fun b hb=>by
  rw[k3]at hb;cases hb;exact k4) fun E hE=>⟨hT.h0,olds++news,by rw[List.length_append];exact k1,by
   intro x hx;rcases List.mem_append.1 hx with h|h
   ·exact hl1 x h
   ·exact hl2 x h,by
   intro x hx;rcases List.mem_append.1 hx with h|h
   ·exact ho1 x h
   ·exact ho2 x h,ow hsrc1.length (fun i r j u hr hu=>(hor i r j u hr hu).mono hE.pc) hl1 (fun i r j u hr hu=>(hnr i r j u hr hu).mono hE.pc)⟩
 unfold Oper.wp
 have hex:(execOp a.eval o).run P w= .ok (.value v') w':=by
  simp[execOp,ho,resolve,invoke,builtin,hvy,hrun]
 rw[hex,Oper.upon_value]
 have hshape: ∃a c,v'= .slice a (xs.length+ys.length) c:=by
  rcases k1.2 with ⟨hq,hz⟩|⟨g,cap,cur,fz,hq,_⟩
  ·exact⟨none,0,by rw[hq,hz]⟩
  ·exact⟨_,cap,hq⟩
 exact hnx v' _ w' hN.1 hN.2 (.os ⟨hshape,.arr e sz false (xs++ys),sz,_,by simp[app],rfl,by simp,fun _=>by simp⟩)
theorem yg{P:Program}{o:Oper}{ρ:Operand->PV}{σ:ASt}{t tx e sz bytes:Nat}{y z:Operand}{xs:List (List PV)}{F:List Nat}(ho:o.op= .call {callee:= .builtin .append,args:= #[y,z],argTypes:= #[t,tx]})
  (hT:AppT P t tx e sz bytes) (hy:ρ y= .vx xs)
  (hz: ∀(s:St),(∀m∈F,s m=ah σ m)->∀(x:Ctx P) hv w v,SimW x s hv w->RV (env x s hv w) v (ρ z)->ua P (env x s hv w) w sz v []):
  LOp P o ρ σ (.vs xs) [] F:=by
 refine ak fun s hs x a hv w hW hops=> ?_;have hv1:=hops y (by simp[ho,Op.operands,Call.operands]);have hv2:=hops z (by simp[ho,Op.operands,Call.operands]);rw[hy]at hv1;obtain⟨a0,n0,hvy,hvs⟩:=hv1.vx_inv;obtain⟨_,_,news,hsrc,_⟩:=hz s hs x hv w _ hW hv2;obtain⟨de,hd1,hd2⟩:=hT.und;refine⟨a.eval y,?_,.pure hvs⟩;rw[hvy];simp[execOp,ho,resolve,invoke,builtin,hvy,af1 t tx o.type e de sz (az hT.ht) hd1 hd2 hT.hsz a0 n0 _ news hsrc]
def agc:PV->PV
 | .nils=> .vs []
 |u=>u
def ap7(P:Program)(t:TypeId)(dst:Option Nat)(σ:ASt)(u v:PV)(K:KT):Prop:=
 match u,v,dst with
 | .int k1 l,.int k2 c,some d=> ∃e sz zs bytes,br P t=some e/\du P e=some sz/\bytesOf P e=some bytes/\bk P e=some zs/\zs.length=sz/\zs.all eh=true/\0<sz/\0<=l/\l<=c/\(bytes:Int)*c<=140737488355328/\c<=140737488355328/\ah σ d=none/\
   K (.os d l.toNat) [(d,.arr e sz false (List.replicate l.toNat (zs.map agc)))] [d]
 |_,_,_=>False
theorem arn(pc:Addr->Value->Prop)(v:Value)(h:eh (abk v)=true):RP pc v (agc (abk v)):=by
 unfold abk at h ⊢;split<;>first|exact .bool _|exact .int _ _|exact .nilp|exact .nilm|exact .nilf|exact .nili|skip
 ·rename_i s;exact RP.str s.data.toList
 ·exact .vs (sz:=0) (fun _ _=>undef) rfl (Nat.le_refl _) (by simp) (by simp) (by simp) (by simp)
 ·simp_all [eh]
theorem ae2{P:Program}{o:Oper}{ρ:Operand->PV}{σ:ASt}{t:TypeId}{y z:Operand}(ho:o.op= .makeSlice t y z){K:KT}(h:ap7 P t o.dst σ (ρ y) (ρ z) K): ∃u δ F,LOp P o ρ σ u δ F/\K u δ F:=by
 unfold ap7 at h;split at h
 ·rename_i u v dst k1 l k2 c d hy hz hd;obtain⟨e,sz,zs,bytes,h1,h2,h3,h4,h5,h5',h6,h7,h8,h9,h10,h11,h12⟩:=h;obtain⟨it,zv,z1,z2,z3⟩:=fg h4;have hzs:zv.cells.size=sz:=by rw[<-z3]at h5;simpa using h5
  have hone: ∀u∈zs,eh (agc u)=true:=fun u hu=>by
   have:=List.all_eq_true.1 h5' u hu
   cases u<;>simp_all [agc,eh]
  have hL:=r8 (P:=P) (o:=o) (ρ:=ρ) (σ:=σ) (d:=d) (e:=e) (sz:=sz) (xs:=List.replicate l.toNat (zs.map agc)) (ns:=[]) h11 h6 (by simp[h5]) (by
    intro x hx;rw[List.eq_of_mem_replicate hx,List.all_map];exact List.all_eq_true.2 fun u hu=>hone u hu) (by simp) (fun x s a hv w hs hW hops=>by
   have hv1:=hops y (by simp[ho,Op.operands]);have hv2:=hops z (by simp[ho,Op.operands]);rw[hy]at hv1;rw[hz]at hv2;have hbz:it.bytes=bytes:=by simpa [bytesOf,z1] using h3
   have hsz:it.size=sz:=by simpa [du,z1] using h2
   have hr:=run_make (P:=P) w t e it zv (az h1) z1 z2 k1 k2 l c h7 h8 (by rw[hbz];omega) (by omega);refine⟨madeCells zv.cells (c.toNat*sz),c.toNat,?_,?_,?_,by simp[size_madeCells],fun i r j u hr' hu=> ?_⟩
   ·simp only[execOp,ho,hv1.int_inv,hv2.int_inv];rw[Sem.run_bind,hr,hsz];simp
   ·simp;omega
   ·simp only[maxLen];omega
   ·have hm:=List.mem_of_getElem? hr';have hrr:=List.eq_of_mem_replicate hm;subst hrr;have hi:i<l.toNat:=by have:=(ca.1 hr').1;simpa using this
    have hj:j<sz:=by have:=(ca.1 hu).1;simpa [h5] using this
    rw[List.getElem?_map]at hu
    cases hzj:zs[j]? with
    |none=>rw[hzj]at hu;cases hu
    |some q=>
     rw[hzj]at hu
     cases hu
     rw[<-z3,List.getElem?_map]at hzj
     cases hcj:zv.cells.toList[j]? with
     |none=>rw[hcj]at hzj;cases hzj
     |some cv=>
      rw[hcj]at hzj
      cases hzj
      have hlt:i*sz+j<c.toNat*sz:=gm (by omega) hj
      have hcell:(madeCells zv.cells (c.toNat*sz)).getD (i*sz+j) undef=cv:=by
       have hmod:(i*sz+j) % zv.cells.size=j:=by rw[hzs,Nat.mul_comm,Nat.mul_add_mod,Nat.mod_eq_of_lt hj]
       have hcj':zv.cells[j]? =some cv:=by simpa using hcj
       have hjs:j<zv.cells.size:=by rw[hzs];exact hj
       simp only[madeCells,Array.getD_eq_getD_getElem?,Array.getElem?_map,Array.getElem?_range,hlt,if_true,Option.map_some,Option.getD_some,hmod];rw[Array.getElem?_eq_getElem hjs]at hcj';simpa [hjs] using hcj'
      rw[hcell]
      have hq:abk cv∈zs:=by
       rw[<-z3];exact List.mem_map.2 ⟨cv,List.mem_of_getElem? hcj,rfl⟩
      exact arn _ _ (List.all_eq_true.1 h5' _ hq))
  rw[List.length_replicate]at hL;exact⟨_,_,_,hL,by simpa [dj] using h12⟩
 ·exact h.elim
def l9(P:Program)(t:TypeId)(u i:PV)(K:KT):Prop:=
 match u,i with
 | .agg cs,.int _ n=> ∃len e,t8 P t=some (len,e)/\jt P e=some false/\du P e=some 1/\0<=n/\n<len/\n<cs.length/\K (cs.getD n.toNat .undef) [] []
 | .str l,.int _ n=>fx P t=true/\0<=n/\n<l.length/\K (.int .u8 ((l.getD n.toNat 0).toNat:Int)) [] []
 |_,_=>False
theorem abf{P:Program}{o:Oper}{ρ:Operand->PV}{σ:ASt}{t:TypeId}{y z:Operand}(ho:o.op= .index t y z){K:KT}(h:l9 P t (ρ y) (ρ z) K): ∃u δ F,LOp P o ρ σ u δ F/\K u δ F:=by
 unfold l9 at h;split at h
 ·rename_i cs k n hy hz;obtain⟨len,e,h1,h2,h3,h4,h5,h6,h7⟩:=h;refine⟨_,_,_,ak fun s hs x a hv w hW hops=> ?_,h7⟩;have hv1:=hops y (by simp[ho,Op.operands]);have hv2:=hops z (by simp[ho,Op.operands]);rw[hy]at hv1;rw[hz]at hv2;obtain⟨vs,hvs,hl,hr⟩:=hv1.agg_inv;have hn:n.toNat<vs.size:=by omega
  refine⟨vs.getD n.toNat undef,?_,hr n.toNat _ (by rw[bq,bf (by omega)];rfl)⟩;simp[execOp,ho,hvs,hv2.int_inv,Instr.index,run_underlying (abt h1),asIntOf,h4,h5,dq h3,part,jl h2,hn]
 ·rename_i l k n hy hz;obtain⟨h1,h2,h3,h4⟩:=h;refine⟨_,_,_,ak fun s hs x a hv w hW hops=> ?_,h4⟩;have hv1:=hops y (by simp[ho,Op.operands]);have hv2:=hops z (by simp[ho,Op.operands]);rw[hy]at hv1;rw[hz]at hv2;have hn:n.toNat<l.length:=by omega
  refine⟨.int .u8 ((l.getD n.toNat 0).toNat:Int),?_,.pure (.int _ _)⟩
  have hb:(⟨l.toArray⟩:ByteArray)[n.toNat]? =some (l.getD n.toNat 0):=by
   have:n.toNat<(⟨l.toArray⟩:ByteArray).size:=by rw[j4];exact hn
   rw[getElem?_pos (⟨l.toArray⟩:ByteArray) n.toNat this];simp[ByteArray.getElem_eq_getElem_data,bq,hn]
  simp[execOp,ho,hv1.str_inv,hv2.int_inv,Instr.index,run_underlying (fj h1),asIntOf,h2,hb]
 ·exact h.elim
theorem ado{P:Program}{o:Oper}{ρ:Operand->PV}{σ:ASt}{f:FuncId}{cap:Array Operand}(ho:o.op= .makeFunc (.func f) #[] cap):LOp P o ρ σ (.fn f (cap.toList.map ρ)) [] []:=by
 refine ak fun s hs x a hv w hW hops=>⟨.func (.func f) #[] (cap.map a.eval),by simp[execOp,ho,Instr.makeFunc],.fn f (by simp) fun i u hu=> ?_⟩;rw[List.getElem?_map]at hu
 cases hc:cap.toList[i]? with
 |none=>rw[hc]at hu;cases hu
 |some y=>
  rw[hc]at hu
  cases hu
  have hci:cap[i]? =some y:=by simpa using hc
  rw[Array.getD_eq_getD_getElem?,Array.getElem?_map,hci];exact hops y (by simp[ho,Op.operands];exact Array.mem_of_getElem? hci)
def a4f(mx:Bool)(u v:PV)(K:KT):Prop:=
 match u,v with
 | .int k a,.int _ b=>K (.int k (if mx then(if a<b then b else a)else(if b<a then b else a))) [] []
 |_,_=>False
theorem zu{P:Program}{o:Oper}{ρ:Operand->PV}{σ:ASt}{mx:Bool}{ts:Array TypeId}{y z:Operand}(ho:o.op= .call {callee:= .builtin (if mx then .max else .min),args:= #[y,z],argTypes:=ts}){K:KT}(h:a4f mx (ρ y) (ρ z) K):
  ∃u δ F,LOp P o ρ σ u δ F/\K u δ F:=by
 unfold a4f at h;split at h
 ·rename_i k a' k' b hy hz;refine⟨_,_,_,ak fun s hs x a hv w hW hops=> ?_,h⟩;have hv1:=hops y (by simp[ho,Op.operands,Call.operands]);have hv2:=hops z (by simp[ho,Op.operands,Call.operands]);rw[hy]at hv1;rw[hz]at hv2;refine⟨_,?_,.pure (.int _ _)⟩
  cases mx<;>simp[execOp,ho,resolve,invoke,builtin,hv1.int_inv,hv2.int_inv,Builtin.min_,Builtin.max_,Builtin.min2,Builtin.max2]
 ·exact h.elim
end Go.Proofs.Am
