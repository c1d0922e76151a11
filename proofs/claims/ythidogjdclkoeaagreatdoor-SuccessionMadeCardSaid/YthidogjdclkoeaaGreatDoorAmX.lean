/- AmX. -/
import Derived.Test.YthidogjdclkoeaaGreatDoorAmW
import Derived.Lib.OwnBridge
import Derived.Sort.Grow
set_option linter.unusedSimpArgs false
set_option linter.unusedVariables false
namespace Go.Proofs.Am
open Go Go.RowKit Go.Sort
variable {P:Program}
theorem ajs(B B':Box):upd (d4 [] [B]) 1000000 (some B')=d4 [] [B']:=by
 funext n;unfold upd d4;by_cases h:n=1000000
 ·subst h;simp
 ·rw[if_neg h];by_cases h2:n<1000000
  ·simp[h2]
  ·simp only[if_neg h2];have:n - 1000000≠0:=by omega
   cases hk:n - 1000000 with
   |zero=>exact absurd hk this
   |succ k=>simp
def mr(P:Program)(e:Nat):Bool:=match P.underlying e with|some (.int .u8)=>false|_=>true
theorem rp{P:Program}{e:Nat}(h:mr P e=true): ¬ans P e:=fun hb=>by
 unfold mr at h;rw[hb]at h
 cases h
theorem aa4{P:Program}{E:Env}{w:World}{h:Value}{e:Nat}{sh:Bool}{l:List Int}(hbt:mr P e=true)(hb:BoxRep P E w h (.arr e 1 sh (l.map fun x=>[.int .i64 x]))):w.ownsRow 0 e 1 h l.length (l.map (Value.int .i64)):=by
 obtain⟨_,ys,h1,h2,h3,h4⟩:=hb;rw[List.length_map]at h1;have hl:ys.length=l.length:=by simpa using h1.1
 have:ys=l.map (Value.int .i64):=by
  apply List.ext_getElem (by simp[hl]);intro i hi _;have hil:i<l.length:=by omega
  have:=h4 i [.int .i64 l[i]] 0 (.int .i64 l[i]) (by simp[hil]) (by simp);rw[Nat.mul_one,Nat.add_zero,bq,bf hi,Option.getD_some]at this;simp only[List.getElem_map];generalize hz:ys[i]=z at this
  cases this
  rfl
 rw[this]at h1;exact h1.own (rp hbt)
theorem avr{P:Program}{E:Env}{w:World}{h:Value}{e:Nat}{sh:Bool}{l:List Int}(h1:w.ownsRow 0 e 1 h l.length (l.map (Value.int .i64))):BoxRep P E w h (.arr e 1 sh (l.map fun x=>[.int .i64 x])):=by
 refine⟨by omega,l.map (Value.int .i64),by rw[List.length_map];exact .of h1,by simp,by simp[eh],fun i x j u hx hu=> ?_⟩;rw[List.getElem?_map]at hx
 cases hl:l[i]? with
 |none=>rw[hl]at hx;cases hx
 |some y=>
  rw[hl]at hx;simp only[Option.map_some,Option.some.injEq]at hx;subst hx
  have:j=0:=by
   by_cases hj:j=0
   ·exact hj
   ·cases j with
    |zero=>rfl
    |succ j=>simp at hu
  subst this;simp at hu;subst hu;simp[bq,hl];exact .int _ _
theorem aw3{w:World}{g q:Nat}{d:Array Int}{os:Array Obj}{b:Nat}(hb:b<w.heap.size)(hne:b≠g):(grow (putRow (Value.int .i64) (Sort.ahead w q) g 0 d) os).heap[b]? =w.heap[b]?:=by
 have h1:(grow (putRow (Value.int .i64) (Sort.ahead w q) g 0 d) os).heap[b]? =(putRow (Value.int .i64) (Sort.ahead w q) g 0 d).heap[b]?:=by
  simp only[grow];rw[Array.getElem?_append_left];simpa [putRow,mapBlock,Sort.ahead] using hb
 rw[h1];have:g≠b:=fun h=>hne h.symm;simp[putRow,mapBlock,Sort.ahead,Array.getElem?_modify,this]
theorem akl{w:World}{base e size:Nat}{v:Value}{n:Nat}{xs:List Value}{os:Array Obj}(h:w.ownsRow base e size v n xs):(grow w os).ownsRow base e size v n xs:=by
 refine⟨h.1,?_⟩;rcases h.2 with h0|⟨g,cap,cur,rfl,h1,h2,h3⟩
 ·exact .inl h0
 ·refine .inr ⟨g,cap,cur,rfl,h1,?_,h3⟩;have hlt:=(Array.getElem?_eq_some_iff.1 h2).1;simp only[grow];rw[Array.getElem?_append_left hlt];exact h2
theorem asd{P:Program}{w:World}{V:Addr->Prop}{hv:Nat->Value}{gc:Nat->Obj->Prop}{e g cap q:Nat}{l new:List Int}{os:Array Obj}(sh:Bool)
  (h:SimW (cx (P:=P) w V hv [.arr e 1 false (l.map fun x=>[.int .i64 x])] gc) (d4 [] [.arr e 1 false (l.map fun x=>[.int .i64 x])]) hv w)
  (hg:hv 1000000= .slice (some ⟨g,0,none⟩) l.length cap) (hn:new.length=l.length) (hbt:mr P e=true):
  SimW (cx (P:=P) w V hv [.arr e 1 false (l.map fun x=>[.int .i64 x])] gc) (d4 [] [.arr e 1 sh (new.map fun x=>[.int .i64 x])]) hv (grow (putRow (Value.int .i64) (Sort.ahead w q) g 0 new.toArray) os):=by
 have h0:d4 [] [.arr e 1 false (l.map fun x=>[.int .i64 x])] 1000000=some (.arr e 1 false (l.map fun x=>[PV.int .i64 x])):=rfl;have hown:=aa4 hbt (h.box 1000000 _ h0);rw[<-ajs (.arr e 1 false (l.map fun x=>[.int .i64 x]))];refine(h.write (w':=grow (putRow (Value.int .i64) (Sort.ahead w q) g 0 new.toArray) os) (n:=1000000) h0 (B':= .arr e 1 sh (new.map fun x=>[.int .i64 x])) ?_ ?_ rfl rfl rfl ?_ ?_ ?_).1
 ·exact⟨_,rfl,by simp[hn],fun _=>rfl⟩
 ·intro off hp;exact hp
 ·simp[grow,putRow,mapBlock,Sort.ahead]
 ·intro b hb hne;rw[hg]at hne;exact aw3 hb fun e=>hne (by rw[e];rfl)
 ·intro E _;refine avr ?_;rw[hg]at hown ⊢;have:=Lib.ownsRow_putRow (q:=q) (k:=l.length) hown hn (Nat.le_refl _);rw[<-hn,List.take_length,hn]at this;rw[hn];exact akl this
theorem ahj{P:Program}{k e:Nat}{l new:List Int}(henter: ∀as w,(callFunc k as).run P w= .ok (.enter k as) w)(hn:new.length=l.length)
  (hrow: ∀g cap w,Holds (Value.int .i64) w g 0 l.toArray->g<w.heap.size->l.length<=cap->
   Calls P k #[.slice (some ⟨g,0,none⟩) l.length cap] w fun en w'=>en= .returned (.tuple #[])/\∃q os,w'=grow (putRow (Value.int .i64) (Sort.ahead w q) g 0 new.toArray) os)
  (hnil:l=[]->∀p cap w,Calls P k #[.slice p 0 cap] w fun en w'=>en= .returned (.tuple #[])/\w'=w) (hbt:mr P e=true:=by kernel_rfl):
  Den P k [.os 1000000 l.length] [.arr e 1 false (l.map fun x=>[.int .i64 x])] (.tup []) [] [.arr e 1 false (new.map fun x=>[.int .i64 x])]:=by
 refine⟨henter,fun w V hv gc vals hS hlen hval=> ?_⟩;have h0:d4 [] [.arr e 1 false (l.map fun x=>[.int .i64 x])] 1000000=some (.arr e 1 false (l.map fun x=>[PV.int .i64 x])):=rfl;have hown:=aa4 hbt (hS.box 1000000 _ h0)
 obtain⟨v,hv1⟩: ∃v,vals=[v]:=by
  match vals,hlen with
  |[v],_=>exact⟨v,rfl⟩
 subst hv1;have hr:=hval 0 v (.os 1000000 l.length) rfl rfl;obtain⟨⟨a,c,hva⟩,e1,sz1,sh1,xs1,k1,k2,k3⟩:=hr.os_arr h0;rw[h0]at k1
 cases k1
 have hvv:v=hv 1000000:=k3 (by simp);rcases hown.2 with ⟨hn0,hl0⟩|⟨g,cap,cur,hg,_,hh,hc,_⟩
 ·have hl:l=[]:=by
   have:l.length=0:=by omega
   exact List.eq_nil_of_length_eq_zero this
  subst hl;have hnew:new=[]:=List.eq_nil_of_length_eq_zero hn;subst hnew;have hva':v= .slice none 0 0:=by rw[hvv,hn0]
  have hcall:=hnil rfl none 0 w;rw[<-hva']at hcall;refine hcall.mono fun en w'=> ?_;rintro⟨rfl,rfl⟩;exact⟨_,hv,rfl,hS,.pure (.tup rfl fun i u hu=>by simp at hu)⟩
 ·have hlt:=(Array.getElem?_eq_some_iff.1 hh).1
  have hH:Holds (Value.int .i64) w g 0 l.toArray:=by
   rw[hg]at hown;obtain⟨g',cap',he,_,_,_,_,_,hH⟩:=Lib.holds_of_ownsRow hown (by intro h;cases h)
   cases he
   exact hH
  have hcall:=hrow g cap w hH hlt hc;rw[<-hg,<-hvv]at hcall;refine hcall.mono fun en w'=> ?_;rintro⟨rfl,q,os,rfl⟩;exact⟨_,hv,rfl,asd false hS hg hn hbt,.pure (.tup rfl fun i u hu=>by simp at hu)⟩
theorem a5p{pc:Addr->Value->Prop}{a:Option Addr}{n c m:Nat}{xs:List (List PV)}(h:RP pc (.slice a n c) (.vs xs))(hm:m<=n):RP pc (.slice a m c) (.vs (xs.take m)):=by
 obtain⟨a',c',sz,U,hv,hc,hsz,h1,ha,hr⟩:=h.vs_inv
 cases hv
 have hg: ∀i x,(xs.take m)[i]? =some x->xs[i]? =some x:=fun i x hx=>by
  rw[List.getElem?_take]at hx;split at hx
  ·exact hx
  ·cases hx
 refine .vs U (by simp;omega) (by omega) (fun x hx=>hsz x (List.mem_of_mem_take hx)) (fun x hx=>h1 x (List.mem_of_mem_take hx)) (fun h0=> ?_) fun i x j u hx hu=>hr i x j u (hg i x hx) hu;obtain⟨ad,h2,h3⟩:=ha (by omega);exact⟨ad,h2,fun i x j u hx hu=>h3 i x j u (hg i x hx) hu⟩
theorem a2b{P:Program}{k e:Nat}{l new kept:List Int}(henter: ∀as w,(callFunc k as).run P w= .ok (.enter k as) w)(hn:new.length=l.length)(hk:new.take kept.length=kept)
  (hrow: ∀g cap w,Holds (Value.int .i64) w g 0 l.toArray->g<w.heap.size->l.length<=cap->
   Calls P k #[.slice (some ⟨g,0,none⟩) l.length cap] w fun en w'=>en= .returned (.slice (some ⟨g,0,none⟩) kept.length cap)/\∃q,w'=putRow (Value.int .i64) (Sort.ahead w q) g 0 new.toArray)
  (hnil:l=[]->∀p cap w,Calls P k #[.slice p 0 cap] w fun en w'=>en= .returned (.slice p 0 cap)/\w'=w) (hbt:mr P e=true:=by kernel_rfl):
  Den P k [.os 1000000 l.length] [.arr e 1 false (l.map fun x=>[.int .i64 x])] (.vs (kept.map fun x=>[.int .i64 x])) [] [.arr e 1 true (new.map fun x=>[.int .i64 x])]:=by
 refine⟨henter,fun w V hv gc vals hS hlen hval=> ?_⟩;have h0:d4 [] [.arr e 1 false (l.map fun x=>[.int .i64 x])] 1000000=some (.arr e 1 false (l.map fun x=>[PV.int .i64 x])):=rfl;have hown:=aa4 hbt (hS.box 1000000 _ h0)
 have hkl:kept.length<=l.length:=by
  have:=congrArg List.length hk;simp at this;omega
 obtain⟨v,hv1⟩: ∃v,vals=[v]:=by
  match vals,hlen with
  |[v],_=>exact⟨v,rfl⟩
 subst hv1;have hr:=hval 0 v (.os 1000000 l.length) rfl rfl;obtain⟨⟨a,c,hva⟩,e1,sz1,sh1,xs1,k1,k2,k3⟩:=hr.os_arr h0;rw[h0]at k1
 cases k1
 have hvv:v=hv 1000000:=k3 (by simp);rcases hown.2 with ⟨hn0,hl0⟩|⟨g,cap,cur,hg,_,hh,hc,_⟩
 ·have hl:l=[]:=by
   have:l.length=0:=by omega
   exact List.eq_nil_of_length_eq_zero this
  subst hl;have hnew:new=[]:=List.eq_nil_of_length_eq_zero hn;have hkept:kept=[]:=List.eq_nil_of_length_eq_zero (by simpa using hkl);subst hnew hkept;have hva':v= .slice none 0 0:=by rw[hvv,hn0]
  have hcall:=hnil rfl none 0 w;rw[<-hva']at hcall;refine hcall.mono fun en w'=> ?_;rintro⟨rfl,rfl⟩;refine⟨_,hv,rfl,?_,by rw[hva'];exact .pure (.vs (sz:=0) (fun _ _=>undef) rfl (Nat.le_refl _) (by simp) (by simp) (by omega) fun i x j u hx hu=>by simp at hx)⟩;have:=(hS.shared (dp (d4 [] [.arr e 1 false (([]:List Int).map fun x=>[PV.int .i64 x])]) [1000000])).1;refine this.congr fun n=> ?_;unfold ar d4;by_cases h1:n=1000000
  ·subst h1;simp[Box.share]
  ·simp only[List.mem_singleton,h1,if_false];by_cases h2:n<1000000
   ·simp[h2]
   ·simp only[if_neg h2]
    cases hk:n - 1000000 with
    |zero=>omega
    |succ k=>simp
 ·have hlt:=(Array.getElem?_eq_some_iff.1 hh).1
  have hH:Holds (Value.int .i64) w g 0 l.toArray:=by
   rw[hg]at hown;obtain⟨g',cap',he,_,_,_,_,_,hH⟩:=Lib.holds_of_ownsRow hown (by intro h;cases h)
   cases he
   exact hH
  have hcall:=hrow g cap w hH hlt hc;rw[<-hg,<-hvv]at hcall;refine hcall.mono fun en w'=> ?_;rintro⟨rfl,q,rfl⟩;have hS':=asd (q:=q) (os:= #[]) true hS hg hn hbt;rw[grow_empty]at hS';have h0':d4 [] [.arr e 1 true (new.map fun x=>[.int .i64 x])] 1000000=some (.arr e 1 true (new.map fun x=>[PV.int .i64 x])):=rfl;have hlist:=hS'.asList h0';rw[hg]at hlist;have hcut:=a5p hlist hkl;rw[<-List.map_take,hk]at hcut;exact⟨_,hv,rfl,hS',.pure hcut⟩
end Go.Proofs.Am

/- A nil slice handed back may be taken as an empty list. -/
namespace Go.Proofs.Am
open Go Go.RowKit
variable {P:Program}
end Go.Proofs.Am
