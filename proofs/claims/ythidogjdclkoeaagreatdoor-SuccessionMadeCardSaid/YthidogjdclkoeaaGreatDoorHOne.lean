/- HOne. -/
import Derived.Test.YthidogjdclkoeaaGreatDoorEOne
import Derived.Test.YthidogjdclkoeaaGreatDoorGOne
import Derived.Test.YthidogjdclkoeaaGreatDoorZOne
import Derived.Test.YthidogjdclkoeaaGreatDoorShP
import Derived.RangeFuncNested
import Derived.RangeFuncBound
import Derived.RangeFuncCalls
import Derived.RangeFuncLeaves
import Derived.Shelf.Abstract
import Derived.Shelf.RegionOpen
import Derived.WalkKit
import Derived.OwnWalkIn
import Derived.TacticsInMore
import Derived.LoopNIn
import Derived.LoopIn
import Derived.RangeFuncBox
import Derived.Maps.AppendAt
import Derived.Test.YthidogjdclkoeaaGreatDoorTX1
import Derived.Lib.SlKeysI
set_option maxHeartbeats 2000000
set_option maxRecDepth 100000
set_option linter.unusedSimpArgs false
set_option linter.unusedVariables false
namespace Go.Proofs.Am
open Go Go.RowKit
open Go.Proofs
def u6(k:Int):Bool:=decide (0<=k/\k<64)
theorem ig{k:Int}:u6 k=true↔0<=k/\k<64:=by simp[u6]
def aok(l:List Int)(s:List Bool):List Bool:=l.foldl (fun s k=>if u6 k=true then s.set k.toNat true else s) s
def ao4(l:List Int)(i:Nat):List Bool:=aok (l.take i) (List.replicate 64 false)
def agd(l:List Int):List Bool:=ao4 l l.length
theorem ac1{l:List Int}{i:Nat}(h:i<l.length):ao4 l (i+1)=if u6 (el l i)=true then(ao4 l i).set (el l i).toNat true else ao4 l i:=by
 simp only[ao4,aok,c9 h,List.foldl_append,List.foldl_cons,List.foldl_nil]
theorem qv(l:List Int): ∀i,i<=l.length->(ao4 l i).length=64
 |0,_=>by simp[ao4,aok]
 |i+1,h=>by
  have ih:=qv l i (by omega);rw[ac1 (by omega)];split
  ·rw[List.length_set,ih]
  ·exact ih
theorem afp: ∀(l:List Int) (s:List Bool) (n:Nat),s[n]? =some true->(aok l s)[n]? =some true
 |[],_,_,h=>h
 |k::l,s,n,h=>by
  have hn:n<s.length:=(ca.1 h).1;show(aok l (if u6 k=true then s.set k.toNat true else s))[n]? =some true;refine afp l _ n ?_;split
  ·rw[List.getElem?_set];split
   ·simp;omega
   ·exact h
  ·exact h
theorem ald: ∀(l:List Int) (s:List Bool),s.length=64->∀k∈l,u6 k=true->(aok l s)[k.toNat]? =some true
 |[],_,_,k,h,_=>by cases h
 |j::l,s,hs,k,h,hk=>by
  show(aok l (if u6 j=true then s.set j.toNat true else s))[k.toNat]? =some true;rcases List.mem_cons.1 h with rfl|h
  ·rw[if_pos hk];refine afp l _ _ ?_;have:=ig.1 hk;rw[List.getElem?_set_self (by omega)]
  ·refine ald l _ ?_ k h hk;split
   ·rw[List.length_set,hs]
   ·exact hs
theorem a3m{l:List Int}{k:Int}(h:k∈l)(hk:u6 k=true):agd l≠List.replicate 64 false:=fun e=>by
 have h1:=ald (l.take l.length) (List.replicate 64 false) (by simp) k (by rwa [List.take_length]) hk;have e2:aok (l.take l.length) (List.replicate 64 false)=List.replicate 64 false:=e;rw[e2,List.getElem?_replicate]at h1;split at h1<;>cases h1
def ov(l:List Int)(i:Nat):Bool:=u6 (el l i)&&(decide (i=0)||decide (el l (i - 1)<el l i))
def kb(l:List Int):Bool:=ah9 (ov l) l.length&&decide (agd l≠List.replicate 64 false)
theorem atm{l:List Int}(h: ∀i,0<i->i<l.length->el l (i - 1)<el l i):asc l:=by
 have main: ∀j,j<l.length->∀i,i<j->el l i<el l j:=fun j=>by
  induction j with
  |zero=>intro _ i hi;omega
  |succ j ih=>
   intro hj i hi;have h1:=h (j+1) (by omega) hj;rw[Nat.add_sub_cancel]at h1;rcases Nat.lt_succ_iff_lt_or_eq.1 hi with h2|rfl
   ·have:=ih (by omega) i h2;omega
   ·exact h1
 unfold asc;rw[List.pairwise_iff_getElem];intro i j hi hj hij;have:=main j hj i hij;simpa [el,bq,hi,hj] using this
theorem sb{l:List Int}:kb l=true↔l≠[]/\(∀k∈l,u6 k=true)/\asc l:=by
 unfold kb;rw[Bool.and_eq_true,decide_eq_true_eq,ah9,decide_eq_true_eq];constructor
 ·rintro⟨h1,h2⟩;refine⟨fun e=>h2 (by rw[e];rfl),fun k hk=> ?_,atm fun i h0 hi=> ?_⟩
  ·obtain⟨i,hi,rfl⟩:=aq9 hk;have:=h1 i hi;simp only[ov,Bool.and_eq_true]at this;exact this.1
  ·have:=h1 i hi;simp only[ov,Bool.and_eq_true,Bool.or_eq_true,decide_eq_true_eq]at this;rcases this.2 with h|h
   ·omega
   ·exact h
 ·rintro⟨h1,h2,h3⟩;refine⟨fun i hi=> ?_,?_⟩
  ·simp only[ov,Bool.and_eq_true,Bool.or_eq_true,decide_eq_true_eq];refine⟨h2 _ (bz hi),?_⟩;rcases Nat.eq_zero_or_pos i with h|h
   ·exact .inl h
   ·have:=List.pairwise_iff_getElem.1 h3 (i - 1) i (by omega) hi (by omega);exact .inr (by simpa [el,bq,hi,show i - 1<l.length by omega] using this)
  ·obtain⟨k,r,rfl⟩:=List.exists_cons_of_ne_nil h1;exact a3m (k:=k) (by simp) (h2 k (by simp))
def j5(s:List Int):Bool:=kb (srt s)&&decide (s.length<=9)
theorem jf{s:List Int}:j5 s=true↔s≠[]/\(∀k∈s,u6 k=true)/\s.Nodup/\s.length<=9:=by
 unfold j5;rw[Bool.and_eq_true,decide_eq_true_eq,sb];have hn:srt s≠[]↔s≠[]:=by rw[ne_eq,ne_eq,<-List.length_eq_zero_iff,<-List.length_eq_zero_iff,jj]
 have hm:(∀k∈srt s,u6 k=true)↔∀k∈s,u6 k=true:=by simp only[as5]
 have ha:asc (srt s)↔s.Nodup:=⟨fun h=>(List.mergeSort_perm _ _).nodup_iff.1 (h.imp fun h=>by omega),a0t⟩;rw[hn,hm,ha,and_assoc,and_assoc]
theorem aq3{s:List Int}:ah9 (p6 s) s.length=true↔(∀k∈s,u6 k=true)/\s.Nodup:=by
 rw[ah9,decide_eq_true_eq];constructor
 ·intro h;refine⟨fun k hk=> ?_,?_⟩
  ·obtain⟨i,hi,rfl⟩:=aq9 hk;have:=of_decide_eq_true (h i hi);exact ig.2 ⟨this.1,this.2.1⟩
  ·unfold List.Nodup;rw[List.pairwise_iff_getElem];intro i j hi hj hij e;have:=(of_decide_eq_true (h j hj)).2.2;refine this ?_;have e2:el s j=s[j]:=by simp[el,bq,hj]
   rw[e2,<-e];exact List.mem_iff_getElem.2 ⟨i,by simp;omega,by simp⟩
 ·rintro⟨h1,h2⟩ i hi;obtain⟨h3,h4⟩:=ig.1 (h1 _ (bz hi));refine decide_eq_true ⟨h3,h4,fun h=> ?_⟩;obtain⟨j,hj,e⟩:=List.mem_iff_getElem.1 h;have hj':j<i:=by simp at hj;omega
  rw[List.getElem_take]at e;have e2:el s i=s[i]:=by simp[el,bq,hi]
  rw[e2]at e;exact List.pairwise_iff_getElem.1 h2 j i (by omega) hi hj' e
theorem pv(c:Cs)(s:List Int):ckS c s=if fq c=false then 41 else if j5 s=true then 0 else 44:=by
 unfold ckS;split
 ·rfl
 ·by_cases h:j5 s=true
  ·rw[if_pos h];obtain⟨h1,h2,h3,h4⟩:=jf.1 h;have:s.length≠0:=fun e=>h1 (List.eq_nil_of_length_eq_zero e);rw[if_neg (by omega),if_pos (aq3.2 ⟨h2,h3⟩)]
  ·rw[if_neg h];split
   ·rfl
   ·rename_i h5;rw[if_neg fun h6=>h (jf.2 ⟨fun e=>by subst e;simp at h5,(aq3.1 h6).1,(aq3.1 h6).2,by omega⟩)]
theorem ax2{c:Cs}{s:List Int}(h:ckS c s=0):fq c=true/\s.length<=9/\s.Nodup/\∀k∈s,0<=k/\k<64:=by
 rw[pv]at h;split at h
 ·cases h
 ·split at h
  ·rename_i h1 h2;obtain⟨h3,h4,h5,h6⟩:=jf.1 h2;exact⟨by simpa using h1,h6,h5,fun k hk=>ig.1 (h4 k hk)⟩
  ·cases h
theorem ajk(k:Int):Den Tryz.prog 82 [.int .i64 k] [] (.bool (u6 k)) [] []:=by
 refine aa Tryz.func82 rfl Tryz.call82 Tryz.ntmps82 Tryz.results82 (by simp) (by kernel_rfl) [] (exts:=[]) rfl rfl ?_;by_cases h1:0<=k
 ·by_cases h2:k<64
  ·simp only[go_sem,h1,h2];simp[u6,h1,h2]
  ·simp only[go_sem,h1,h2];simp[u6,h2]
 ·simp only[go_sem,h1];simp[u6,h1]
def z64:List Bool:=List.replicate 64 false
theorem aaq(l:List Int)(hl:big l.length):Den Tryz.prog 83 [.vs (l.map i1)] [] (.agg ((agd l).map cb)) [] []:=by
 refine aa Tryz.func83 rfl Tryz.call83 Tryz.ntmps83 Tryz.results83 (by simp) (by kernel_rfl) [] (exts:=[]) rfl rfl ?_;have hz:ao4 l 0=z64:=rfl;simp only[go_sem];refine loop Tryz.mixed 0 (fun i:Nat=>[(2,.ptr 2 0),(3,.ptr 3 0),(6,.vs (l.map i1)),(7,.int .i64 l.length),(8,.int .i64 i)]) (fun i=>[(2,.cells (z64.map cb)),(3,.cells ((ao4 l i).map cb))]) (fun i=>i<=l.length) (fun i=>l.length - i) (by kernel_rfl) (Nat.zero_le _) ?_ ?_
 ·simp only[go_sem,hz];exact⟨rfl,rfl⟩
 ·intro i hi;have hln:=qv l i hi;by_cases hlt:i<l.length
  ·have h1:(i:Int)<(l.length:Int):=by omega
   have hsu:=ac1 hlt;have ck:=ajk (el l i);generalize ao4 l i=s at*
   cases hk:u6 (el l i)
   ·rw[hk]at ck;rw[hk,if_neg (by simp)]at hsu;simp only[go_sem,h1,hlt];refine call ck [] ?_;simp only[go_sem];refine⟨i+1,⟨by omega,by omega⟩,?_⟩;rw[hsu];simp only[go_sem];rw[ai]<;>omega
   ·rw[hk]at ck;rw[hk,if_pos rfl]at hsu;obtain⟨k1,k2⟩:=ig.1 hk;obtain⟨k,hkk⟩: ∃k:Nat,el l i=(k:Int):=⟨(el l i).toNat,by omega⟩;have k3:k<s.length:=by omega
    have k4:k<64:=by omega
    rw[hkk]at ck hsu;rw[Int.toNat_natCast]at hsu;simp only[go_sem,h1,hlt,hkk];refine call ck [] ?_;simp only[go_sem,k3,k4];exact⟨by omega,i+1,⟨by omega,by omega⟩,by rw[ai]<;>omega,hsu.symm⟩
  ·have h1: ¬(i:Int)<(l.length:Int):=by omega
   have:i=l.length:=by omega
   subst this;have e3:z64.length=64:=rfl;have e4:z64.drop 64=[]:=rfl;have e5:agd l=ao4 l l.length:=rfl;rw[e5];generalize ao4 l l.length=s at*;have e1:s.take 64=s:=List.take_of_length_le (by omega);simp only[go_sem,h1,e1,e3,e4,hln]
theorem aeq(l:List Int)(hl:big l.length):Den Tryz.prog 61 [.vs (l.map i1)] [] (.bool (kb l)) [] []:=by
 refine aa Tryz.func61 rfl Tryz.call61 Tryz.ntmps61 Tryz.results61 (by simp) (by kernel_rfl) [] (exts:=[]) rfl rfl ?_;have hv: ∀b,kb l=b->kb l=b:=fun _ h=>h;have hbad: ∀i,i<l.length->ov l i=false->kb l=false:=fun i hi h=>by rw[kb,gn hi h,Bool.false_and]
 have hgood:(∀i,i<l.length->ov l i=true)->kb l=decide (agd l≠List.replicate 64 false):=fun h=>by rw[kb,s4 h,Bool.true_and]
 have cset:=aaq l hl;have sl:(agd l).length=64:=qv l l.length (Nat.le_refl _);generalize kb l=v at*;simp only[go_sem];refine loop Tryz.mixed 0 (fun i:Nat=>[(0,.vs (l.map i1)),(5,.vs (l.map i1)),(6,.int .i64 l.length),(7,.int .i64 i)]) (fun _=>[]) (fun i=>i<=l.length/\∀j,j<i->ov l j=true) (fun i=>l.length - i) (by kernel_rfl) ⟨Nat.zero_le _,by simp⟩ ?_ ?_
 ·simp only[go_sem]
 ·rintro i ⟨hi,hp⟩;by_cases hlt:i<l.length
  ·have h1:(i:Int)<(l.length:Int):=by omega
   simp only[go_sem,h1,hlt];refine call (ajk (el l i)) [] ?_
   cases hk:u6 (el l i)
   ·have hq:ov l i=false:=by simp[ov,hk]
    simp only[go_sem,h1,hlt];exact(hbad i hlt hq).symm
   ·rcases Nat.eq_zero_or_pos i with h0|h0
    ·subst h0;have hq:ov l 0=true:=by simp[ov,hk]
     have g: ¬(0:Int)<((0:Nat):Int):=by omega
     simp only[go_sem,h1,hlt,g];exact⟨0+1,⟨⟨by omega,d6 hp hq⟩,by omega⟩,rfl⟩
    ·obtain⟨j,rfl⟩: ∃j,i=j+1:=⟨i - 1,by omega⟩;have g:(0:Int)<((j+1:Nat):Int):=by omega
     have g2:IntKind.i64.wrap (((j+1:Nat):Int) - 1)=(j:Int):=by rw[ai]<;>omega
     have g3:j<l.length:=by omega
     by_cases h2:el l (j+1)<=el l j
     ·have hq:ov l (j+1)=false:=by simp[ov,hk];omega
      simp only[go_sem,h1,hlt,g,g2,g3,h2];exact(hbad (j+1) hlt hq).symm
     ·have hq:ov l (j+1)=true:=by simp[ov,hk];omega
      simp only[go_sem,h1,hlt,g,g2,g3,h2];exact⟨j+1+1,⟨⟨by omega,d6 hp hq⟩,by omega⟩,by rw[ai]<;>omega⟩
  ·have h1: ¬(i:Int)<(l.length:Int):=by omega
   have:i=l.length:=by omega
   subst this;have hv:=hgood hp;have he:=aq6 (agd l) (List.replicate 64 false) (by rw[sl];simp);rw[sl]at he;simp only[go_sem,h1];refine call cset [] ?_;generalize agd l=s at*;simp only[go_sem];change (match w5 (List.replicate 64 CK.bool) (List.map cb s) (List.map cb (List.replicate 64 false))with|some b=>(!b)=v|none=>False);rw[he,hv];simp
theorem ag5(v s:Nat)(hv:v<=1000000)(hs:s<=1000000):Den Tryz.prog 115 [.int .i64 v,.int .i64 s] [] (.bool (ag6 v s)) [] []:=by
 refine aa Tryz.func115 rfl Tryz.call115 Tryz.ntmps115 Tryz.results115 (by simp) (by kernel_rfl) [] (exts:=[]) rfl rfl ?_;have e1:IntKind.i64.wrap (4*(v:Int))=4*v:=by rw[ai]<;>omega
 have e2:IntKind.i64.wrap (3*(s:Int))=3*s:=by rw[ai]<;>omega
 have h3:(0:Int)<=(v:Int):=by omega
 by_cases h1:1<=(s:Int)
 ·by_cases h2:(s:Int)<=9
  ·by_cases h4:(v:Int)<=(s:Int)
   ·simp only[go_sem,h1,h2,h3,h4,e1,e2];rw[ag6,Bool.eq_iff_iff];simp only[decide_eq_true_eq];omega
   ·have:ag6 v s=false:=decide_eq_false (by omega);simp only[go_sem,h1,h2,h3,h4,this]
  ·have:ag6 v s=false:=decide_eq_false (by omega);simp only[go_sem,h1,h2,this]
 ·have:ag6 v s=false:=decide_eq_false (by omega);simp only[go_sem,h1,this]
end Go.Proofs.Am

/- Iterators at the level of worlds: what a walk over an iterator leans on. -/
namespace Go.Proofs.Am
open Go Go.RowKit Go.Shelf
open Go.Proofs
def KeepQ(S:Addr->Prop)(A B:World):Prop:=A.heap.size<=B.heap.size/\∀a,S a->B.cell? a=A.cell? a
def NumQ(S:Addr->Prop)(W:World)(v:Value)(l:List Int):Prop:=RP (fun a u=>W.cell? a=some u/\S a) v (.vs (l.map i1))
theorem aab{S:Addr->Prop}{W:World}{v:Value}{l:List Int}(h:NumQ S W v l): ∃(a:Option Addr) (c:Nat),v= .slice a l.length c/\l.length<=c/\(0<l.length->∃ad,a=some ad/\∀i,i<l.length->W.cell? (ad.add i)=some (.int .i64 (el l i))/\S (ad.add i)):=by
 obtain⟨a,c,sz,U,h1,h2,h3,h4,h5,h6⟩:=h.vs_inv;simp only[List.length_map]at h1 h2 h5;refine⟨a,c,h1,h2,fun h0=> ?_⟩;obtain⟨ad,rfl,h7⟩:=h5 h0;refine⟨ad,rfl,fun i hi=> ?_⟩
 have hsz:sz=1:=by
  have:=h3 (i1 (el l 0)) (List.mem_map.2 ⟨_,bz h0,rfl⟩);simpa [i1] using this.symm
 subst hsz;have e1:(l.map i1)[i]? =some [.int .i64 (el l i)]:=by rw[List.getElem?_map,bf hi,zk l i hi];rfl
 have:=h7 i _ 0 _ e1 rfl;rw[Nat.mul_one,Nat.add_zero]at this;have hu:=h6 i _ 0 _ e1 rfl
 have:U i 0= .int .i64 (el l i):=by
  generalize U i 0=u at hu
  cases hu;rfl
 have h8:=h7 i _ 0 _ e1 rfl;rw[Nat.mul_one,Nat.add_zero,this]at h8;exact h8
theorem NumQ.keep{S:Addr->Prop}{A B:World}{v:Value}{l:List Int}(h:NumQ S A v l)(hk:KeepQ S A B):NumQ S B v l:=
 RP.mono (fun a u ⟨h1,h2⟩=>⟨(hk.2 a h2).trans h1,h2⟩) h
theorem KeepQ.refl(S:Addr->Prop)(A:World):KeepQ S A A:=⟨Nat.le_refl _,fun _ _=>rfl⟩
theorem KeepQ.trans{S:Addr->Prop}{A B C:World}(h:KeepQ S A B)(k:KeepQ S B C):KeepQ S A C:=⟨Nat.le_trans h.1 k.1,fun a ha=>(k.2 a ha).trans (h.2 a ha)⟩
theorem a8n:(Tryz.prog.info? 3).map (fun i=>(i.zero,i.size,i.bytes))=some (some (.int .i64 0),1,8):=by kernel_rfl
theorem afj{S:Addr->Prop}{w1 W:World}{l:Nat}{o':Obj}(hS: ∀a,S a->a.block<w1.heap.size)(hl:w1.heap.size<=l):KeepQ S W (W.putObj l o'):=
 ⟨by simp,fun a ha=>World.cell?_of_block (World.putObj_heap_other (fun e=>by have:=hS a ha;omega))⟩
theorem NumQ.wide{S T:Addr->Prop}{W:World}{v:Value}{l:List Int}(h:NumQ S W v l)(hS: ∀a,S a->T a):NumQ T W v l:=
 RP.mono (fun a u ⟨h1,h2⟩=>⟨h1,hS a h2⟩) h
theorem a3o{W:World}{N e:Nat}{v:Value}{l:List Int}(h:W.ownsRow N e 1 v l.length (l.map (Value.int .i64))):RP (fun a x=>W.cell? a=some x/\N<=a.block) v (.vs (l.map i1)):=by
 by_cases hv:v= .slice none 0 0
 ·subst hv;rcases h.2 with ⟨_,h0⟩|⟨g,cap,cur,he,_⟩
  ·have:l=[]:=List.eq_nil_of_length_eq_zero h0;subst this;exact .vs (sz:=0) (fun _ _=>Go.undef) rfl (Nat.le_refl _) (by simp) (by simp) (by omega) fun i x j u hx hu=>by simp at hx
  ·cases he
 ·obtain⟨g,cap,rfl,hb,_,hc,_,_,hH⟩:=Lib.holds_of_ownsRow h hv
  have hi: ∀(i:Nat) (x:List PV) (j:Nat) (u:PV),(l.map i1)[i]? =some x->x[j]? =some u->i<l.length/\j=0/\u= .int .i64 (el l i):=fun i x j u hx hu=>by
   rw[List.getElem?_map]at hx
   cases hl:l[i]? with
   |none=>rw[hl]at hx;cases hx
   |some y=>
    rw[hl]at hx;simp only[Option.map_some,Option.some.injEq]at hx;subst hx;have hil:=(ca.1 hl).1
    cases j with
    |zero=>simp[i1]at hu;exact⟨hil,rfl,by rw[<-hu,zk l i hil];simp[(ca.1 hl).2]⟩
    |succ j=>simp[i1]at hu
  refine .vs (sz:=1) (fun i _=> .int .i64 (el l i)) (by simp) hc (by simp[i1]) (by simp[i1,eh]) (fun _=>⟨_,rfl,fun i x j u hx hu=> ?_⟩) fun i x j u hx hu=> ?_
  ·obtain⟨h1,rfl,_⟩:=hi i x j u hx hu;have:=(hH i (by simpa using h1)).1
   have ea:(⟨g,0,none⟩:Addr).add (i*1+0)=⟨g,0+i,none⟩:=by
    unfold Addr.add;split<;>simp_all
   rw[ea];refine⟨?_,hb⟩;rw[this,zk l i h1];simp[getElem!_pos,h1]
  ·obtain⟨h1,rfl,rfl⟩:=hi i x j u hx hu;exact .int _ _
end Go.Proofs.Am

/- decision.seated: numbers are handed out by an iterator, and sorted. -/
namespace Go.Proofs.Am
open Go Go.RowKit Go.Shelf Go.Sort
open Go.Proofs
attribute [local go_sem] Oper.semAt_some
theorem al2(n:Nat)(l b1:Nat)(seats:List Int)(ad:Option Addr)(c:Nat)(S:Addr->Prop)(J Jx:List Int->World->Prop)(W:World)
  (ho:seats.length<=1000000)
  (hY: ∀pre x W,J pre W->pre.length<seats.length->YieldAt Fence.wide (n - 1) Tryz.prog l #[.int .i64 x] W fun e W'=>
   (e= .returned (.bool true)/\J (pre++[x]) W'/\KeepQ S W W')\/(e= .returned (.bool false)/\Jx (pre++[x]) W'))
  (s1:S ⟨b1,0,none⟩) (h1:W.cell? ⟨b1,0,none⟩=some (.slice ad seats.length c))
  (nO:NumQ S W (.slice ad seats.length c) seats) (h0:J [] W):
  CallsIn Fence.wide n Tryz.prog 166 #[.func (.yield l) #[] #[],.pointer (some ⟨b1,0,none⟩)] W fun e W'=>(∃v,e= .returned v)/\
   ((∃ys,ys=seats/\J ys W')\/(∃pre,pre<+:seats/\Jx pre W')):=by
 refine callsIn_of_wp Tryz.func166 rfl trivial ?_ rfl;simp only[Tryz.ntmps166,List.size_toArray,List.length_cons,List.length_nil,Nat.reduceAdd,Nat.reduceSub,Array.replicate_succ,Array.replicate_zero,List.push_toArray,List.append_toArray,List.nil_append,List.cons_append]
 gi_wp2
 gi_loopw [7] (fun p wr=> ∃i:Nat,p= .int .i64 i/\i<=seats.length/\J (seats.take i) wr/\KeepQ S W wr)
  (fun p wr=>seats.length - (intOf p).toNat)
 case atStart=>
  exact⟨0,rfl,by omega,h0,.refl _ _⟩
 case round=>
  obtain⟨i,rfl,hi,hJs,hK⟩:=hrel;by_cases hi':i<seats.length
  ·obtain⟨ad',c',hv,_,hc⟩:=aab (nO.keep hK)
   cases hv
   obtain⟨ad1,had,hc2⟩:=hc (by omega);subst had;obtain⟨hci,_⟩:=hc2 i hi';have hlen:(seats.take i).length<seats.length:=by rw[List.length_take];omega
   obtain⟨fn,tmps,assign,body,hy,hRd⟩:=hY (seats.take i) (el seats i) wr hJs hlen
   gi_wp2
   refine⟨fun h=>(by cases h),hRd.mono ?_⟩;rintro e W4 (⟨rfl,hJ4,hK4⟩|⟨rfl,hJx4⟩)
   ·gi_wp2
    go_roundw
    case rel=>exact⟨i+1,rfl,by omega,by rw[c9 hi'];exact hJ4,hK.trans hK4⟩
    case measure=>simp only[intOf];omega
   ·gi_wp2
    refine bodyPost_ret (results_none rfl _ _ _) rfl ?_;exact⟨⟨_,rfl⟩,.inr ⟨seats.take i++[el seats i],by rw[<-c9 hi'];exact List.take_prefix _ _,hJx4⟩⟩
  ·have hi2:i=seats.length:=by omega
   subst hi2
   gi_wp2
   go_end0
   exact⟨⟨_,rfl⟩,.inl ⟨_,by rw[List.take_length],hJs⟩⟩
theorem ad8(w:World)(S:Addr->Prop)(seats:List Int)(bb:Nat)(ad:Option Addr)(c:Nat)(ho:seats.length<=1000000)
  (hS: ∀a,S a->a.block<w.heap.size) (s1:S ⟨bb,0,none⟩) (h1:w.cell? ⟨bb,0,none⟩=some (.slice ad seats.length c)) (nO:NumQ S w (.slice ad seats.length c) seats):
  SeqStopsK Fence.wide 2 Tryz.prog 166 #[.pointer (some ⟨bb,0,none⟩)] (fun x:Int=> #[Value.int .i64 x]) (KeepQ S) (fun ys=>ys=seats) (fun pre=>pre<+:seats) seats.length w:=by
 intro l J Jx W hW hJ hJx hY h0;have hK:KeepQ S w W:=⟨hW.size,fun a ha=>hW.cell (hS a ha)⟩;exact al2 2 l bb seats ad c S J Jx W ho hY s1 ((hK.2 _ s1).trans h1) (nO.keep hK) h0
theorem arg(w:World)(S:Addr->Prop)(seats:List Int)(bb:Nat)(ad:Option Addr)(c:Nat)(ho:seats.length<=1000000)
  (hS: ∀a,S a->a.block<w.heap.size) (s1:S ⟨bb,0,none⟩) (h1:w.cell? ⟨bb,0,none⟩=some (.slice ad seats.length c)) (nO:NumQ S w (.slice ad seats.length c) seats):
  CallsIn Fence.wide 3 Tryz.prog 200 #[.slice none 0 0,.func (.func 166) #[] #[.pointer (some ⟨bb,0,none⟩)]] w fun e W'=> ∃v,e= .returned v/\Below w.heap.size w W'/\W'.ownsRow w.heap.size 3 1 v seats.length (seats.map (Value.int .i64)):=by
 obtain⟨i0,hi,hz0,hz1,hz2⟩:=info_parts a8n;refine callsIn_of_wp_marks Tryz.func200 rfl trivial ?_ rfl;simp only[Tryz.ntmps200,List.size_toArray,List.length_cons,List.length_nil,Nat.reduceAdd,Nat.reduceSub,Array.replicate_succ,Array.replicate_zero,List.push_toArray,List.append_toArray,List.nil_append,List.cons_append]
 gi_wp2
 have hB0:Below w.heap.size w (w.alloc (.cells #[.slice none 0 0] 22)):=(Below.refl _ w).alloc (Nat.le_refl _) _;have bB:=Boxed.new w 22 (.slice none 0 0);have hsz:(w.alloc (.cells #[.slice none 0 0] 22)).heap.size=w.heap.size+1:=by simp
 generalize w.alloc (.cells #[.slice none 0 0] 22)=w1 at*;have hK1:KeepQ S w w1:=⟨hB0.size,fun a ha=>hB0.cell (hS a ha)⟩;have hS1: ∀a,S a->a.block<w1.heap.size:=fun a ha=>by have:=hS a ha;omega
 have hstops:=ad8 w1 S seats bb ad c ho hS1 s1 ((hK1.2 _ s1).trans h1) (nO.keep hK1)
 refine wpIn_rangeFunc_ownG rfl (by omega) (gf:=166) (lb:= #[.pointer (some ⟨bb,0,none⟩)]) rfl trivial (enters_of Tryz.func166 (by kernel_rfl) rfl)
  hstops KeepQ.trans (fun W l o o' hl ho' hc _=>afj hS1 hl) (Below.refl _ _) (fun _=>rfl)
  (fun pre W=>(∃v,Boxed W w.heap.size 22 v/\W.ownsRow w.heap.size 3 1 v pre.length (pre.map (Value.int .i64))/\True)/\Below w.heap.size w W)
  (fun _ _ _=>False)
  (OwnFrom.and (Own.from (holdsRow_own w.heap.size w.heap.size 22 3 1 (fun pre:List Int=>pre.length) (fun pre=>pre.map (Value.int .i64)) (fun _ _=>True)) _) (ownFrom_below (Nat.le_refl _) (by omega)))
  (fun _ _ _ _ _ hs _ _=>hs)
  ⟨⟨_,bB,World.ownsRow_nil _ _ _ _,trivial⟩,hB0⟩
  (fun x=>{tmps:= #[.slice none 0 0,.func (.func 166) #[] #[.pointer (some ⟨bb,0,none⟩)],.pointer (some ⟨w.heap.size,0,none⟩),Go.undef,.slice none 0 0,.int .i64 x,.func (.func 166) #[] #[.pointer (some ⟨bb,0,none⟩)],.int .i64 x,Go.undef,Go.undef,Go.undef,Go.undef,Go.undef],defers:=[]}) ?assign ?body ?done ?stop
 case assign=>
  intro l x W K hK
  gi_wp2
  exact hK
 case body=>
  rintro l pre x W ⟨⟨v,hv,hrow,_⟩,hB⟩ hlt;have hc:=hv.cell
  gi_wp2_with (gi_at_builtin;refine wpListIn_append_own _ rfl _ _ 22 rfl w.heap.size 3 i0 (.int .i64 0) 1 8 Tryz.underlying22 hi hz0 hz1 hz2 rfl (by decide) _ _ _ rfl (hrow.alloc _) ⟨W.heap.size,0,none⟩ 1 1 [.int .i64 x] rfl rfl (cell_one_new _ _ _) (by simp[Value.oneCell']) (by simp only[maxLen];omega) (by omega) (by have:=hB.size;simp;omega) ?_;intro v' w1 hown' hgrow _;obtain⟨g',cap',rfl⟩:=ownsRow_succ hown';obtain⟨hv1,hv2,hr2,hk2,hbb2⟩:=hv.appended (by decide) hrow hB.size (Nat.le_refl _) hown' hgrow;have hc1:=hv1.cell;have hf1:=hv1.frozen)
  exact⟨hk2.from _,⟨hbb2.size,fun a ha=>hbb2.cell (hS a ha)⟩,⟨_,hv2,by simpa using hr2,trivial⟩,hB.trans hbb2⟩
 case done=>
  rintro D ys W hD rfl ⟨⟨v,hv,hrow,_⟩,hB⟩ hK;have hc:=hv.cell
  obtain⟨a4,c4,rfl⟩: ∃a c,v= .slice a ys.length c:=by
   rcases hrow.2 with ⟨rfl,hz⟩|⟨gb,cap,cur,rfl,_⟩
   ·exact⟨none,0,by rw[hz]⟩
   ·exact⟨_,_,rfl⟩
  gi_wp2
  refine⟨by simp,.inl ⟨_,_,rfl,run_takeDeferred hK,?_⟩⟩;exact⟨_,results_tmp rfl _ _ _,_,rfl,hB.trans (belowK_b (w:=w) (Nat.le_refl _) W D _ _ (by omega) hK rfl rfl),ownsRow_putObj hrow _ hK rfl⟩
 case stop=>
  rintro D c pre W _ _ h _;exact h.elim
theorem aef{W:World}{N e:Nat}{v:Value}{k:Nat}{xs:List Value}(h:W.ownsRow N e 1 v k xs): ∃a c,v= .slice a k c:=by
 rcases h.2 with ⟨rfl,hz⟩|⟨gb,cap,cur,rfl,_⟩
 ·exact⟨none,0,by rw[hz]⟩
 ·exact⟨_,_,rfl⟩
theorem amg(w:World)(S:Addr->Prop)(seats:List Int)(bb:Nat)(ad:Option Addr)(c:Nat)(ho:seats.length<=1000000)
  (hS: ∀a,S a->a.block<w.heap.size) (s1:S ⟨bb,0,none⟩) (h1:w.cell? ⟨bb,0,none⟩=some (.slice ad seats.length c)) (nO:NumQ S w (.slice ad seats.length c) seats):
  CallsIn Fence.wide 4 Tryz.prog 165 #[.func (.func 166) #[] #[.pointer (some ⟨bb,0,none⟩)]] w fun e W'=> ∃v,e= .returned v/\Below w.heap.size w W'/\W'.ownsRow w.heap.size 3 1 v seats.length (seats.map (Value.int .i64)):=by
 refine callsIn_of_wp Tryz.func165 rfl trivial ?_ rfl;simp only[Tryz.ntmps165,List.size_toArray,List.length_cons,List.length_nil,Nat.reduceAdd,Nat.reduceSub,Array.replicate_succ,Array.replicate_zero,List.push_toArray,List.append_toArray,List.nil_append,List.cons_append]
 gi_wp2
 refine⟨trivial,(arg w S seats bb ad c ho hS s1 h1 nO).mono ?_⟩;rintro e W ⟨v,rfl,hB,hrow⟩;obtain⟨a4,c4,rfl⟩:=aef hrow
 gi_wp2
 go_ret
 exact⟨_,rfl,hB,hrow⟩
theorem asx(w:World)(S:Addr->Prop)(seats:List Int)(bb:Nat)(ad:Option Addr)(c:Nat)(ho:seats.length<=1000000)
  (hS: ∀a,S a->a.block<w.heap.size) (s1:S ⟨bb,0,none⟩) (h1:w.cell? ⟨bb,0,none⟩=some (.slice ad seats.length c)) (nO:NumQ S w (.slice ad seats.length c) seats):
  CallsIn Fence.wide 5 Tryz.prog 151 #[.func (.func 166) #[] #[.pointer (some ⟨bb,0,none⟩)]] w fun e W'=> ∃v,e= .returned v/\Below w.heap.size w W'/\W'.ownsRow w.heap.size 3 1 v (srt seats).length ((srt seats).map (Value.int .i64)):=by
 refine callsIn_of_wp Tryz.func151 rfl trivial ?_ rfl;simp only[Tryz.ntmps151,List.size_toArray,List.length_cons,List.length_nil,Nat.reduceAdd,Nat.reduceSub,Array.replicate_succ,Array.replicate_zero,List.push_toArray,List.append_toArray,List.nil_append,List.cons_append]
 gi_wp2
 refine⟨trivial,(amg w S seats bb ad c ho hS s1 h1 nO).mono ?_⟩;rintro e W ⟨v,rfl,hB,hrow⟩;rcases hrow.2 with ⟨rfl,hz⟩|⟨gb,cap,cur,rfl,hbase,hgb,r1,r2,r3,r4⟩
 ·have hss:seats=[]:=List.eq_nil_of_length_eq_zero hz;subst hss
  gi_wp2
  refine⟨trivial,(callsIn_wide.2 (Any.slices_Sort_int_none Tryz.laysSort none 0 W)).mono ?_⟩;rintro e w' ⟨rfl,rfl⟩
  gi_wp2
  go_ret
  exact⟨_,rfl,hB,by simpa [srt] using hrow⟩
 ·have hH:Holds encZ W gb 0 seats.toArray:=holds_of_block_i hgb (by simpa using r4);have hgl:gb<W.heap.size:=(Array.getElem?_eq_some_iff.1 hgb).1
  gi_wp2
  refine⟨trivial,(callsIn_wide.2 (Any.slices_Sort_int Tryz.laysSort gb 0 cap seats W hH hgl (by omega))).mono ?_⟩;rintro e w' ⟨rfl,nn,os,rfl⟩
  gi_wp2
  go_ret
  refine⟨_,rfl,hB.grown (grownBy_sorted_i _) hB.size (fun j hj=>by cases hj;exact hbase),?_⟩;have:=ownsRow_sorted_i (ts:=srt seats) (n:=nn) (os:=os) (jj seats) hbase hgb r1 r2 r3;rw[jj];exact this
theorem ap6(n:Nat)(a1:Option Addr)(n1 c1:Nat)(w:World):
  CallsIn Fence.wide n Tryz.prog 152 #[.slice a1 n1 c1] w fun e w'=>e= .returned (.func (.func 166) #[] #[.pointer (some ⟨w.heap.size,0,none⟩)])/\
   w'=w.alloc (.cells #[.slice a1 n1 c1] 22):=by
 refine callsIn_of_wp Tryz.func152 rfl trivial ?_ rfl;simp only[Tryz.ntmps152,List.size_toArray,List.length_cons,List.length_nil,Nat.reduceAdd,Nat.reduceSub,Array.replicate_succ,Array.replicate_zero,List.push_toArray,List.append_toArray,List.nil_append,List.cons_append]
 gi_wp2
 go_ret
 exact⟨rfl,rfl⟩
theorem apl(w:World)(hL:Laid Tryz.prog w)(V:Addr->Prop)(vS:Value)(seats:List Int)(ho:seats.length<=1000000)(hV: ∀a,V a->a.block<w.heap.size)(nS:NumQ V w vS seats):
  CallsIn Fence.wide 6 Tryz.prog 132 #[vS] w fun e W'=>e= .returned (.bool (j5 seats))/\Below w.heap.size w W':=by
 obtain⟨aS,cS,rfl,_,_⟩:=aab nS;refine callsIn_of_wp Tryz.func132 rfl trivial ?_ rfl;simp only[Tryz.ntmps132,List.size_toArray,List.length_cons,List.length_nil,Nat.reduceAdd,Nat.reduceSub,Array.replicate_succ,Array.replicate_zero,List.push_toArray,List.append_toArray,List.nil_append,List.cons_append]
 gi_wp2
 refine⟨trivial,(ap6 _ _ _ _ _).mono ?_⟩;rintro e w' ⟨rfl,rfl⟩
 gi_wp2
 have hB0:Below w.heap.size w (w.alloc (.cells #[.slice aS seats.length cS] 22)):=(Below.refl _ w).alloc (Nat.le_refl _) _;have bB:=Boxed.new w 22 (.slice aS seats.length cS);have hsz:(w.alloc (.cells #[.slice aS seats.length cS] 22)).heap.size=w.heap.size+1:=by simp
 generalize w.alloc (.cells #[.slice aS seats.length cS] 22)=w1 at*;have hK1:KeepQ V w w1:=⟨hB0.size,fun a ha=>hB0.cell (hV a ha)⟩;refine⟨trivial,(asx w1 (fun a=>V a\/a=⟨w.heap.size,0,none⟩) seats w.heap.size aS cS ho (fun a ha=> ?_) (.inr rfl) bB.cell ((nS.keep hK1).wide fun a h=> .inl h)).mono ?_⟩
 ·rcases ha with h|rfl
  ·have:=hV a h;omega
  ·simp only;omega
 rintro e W ⟨v,rfl,hB,hrow⟩;obtain⟨a4,c4,rfl⟩:=aef hrow;have D2:=aeq (srt seats) (by rw[jj];simp only[big];omega);have hB2:Below w.heap.size w W:=hB0.trans (hB.mono (by omega));have hLW:Laid Tryz.prog W:=qr hL W fun b _ hb=>(hB2.block b (Array.getElem?_eq_some_iff.1 hb).1).trans hb
 have hcall:=x5 D2 W hLW (fun a=>w1.heap.size<=a.block) [.slice a4 (srt seats).length c4] rfl (fun i u p hi hp=>by
  match i,hi,hp with
  |0,hi,hp=>simp at hi hp;subst hi hp;exact a3o hrow
  |i+1,hi,hp=>simp at hi)
 gi_wp2
 refine⟨trivial,(callsIn_wide.2 hcall).mono ?_⟩;rintro e W3 ⟨u,rfl,hg3,E,hR,hpc⟩;have hu:=hR.bool_inv;subst hu;have hB3:Below w.heap.size w W3:=hB0.trans ((hB.mono (by omega)).grown hg3 (by have:=hB.size;omega) (fun k e=>by cases e));have hlen:=jj seats
 cases hv:kb (srt seats)
 ·gi_wp2
  go_ret
  exact⟨by simp[j5,hv],hB3⟩
 ·gi_wp2
  go_ret
  exact⟨by simp[j5,hv,hlen];omega,hB3⟩
theorem amu(seats:List Int)(ho:seats.length<=1000000):Den Tryz.prog 132 [.vs (seats.map i1)] [] (.bool (j5 seats)) [] []:=by
 refine wx (enters_of Tryz.func132 (by kernel_rfl) rfl) fun w V vals hL hV hlen hval=> ?_
 match vals,hlen with
 |[v1],_=>
  obtain⟨E1,r1,p1⟩:=hval 0 v1 _ rfl rfl;refine(callsIn_wide.1 (apl w hL V v1 seats ho hV (RP.mono p1 r1.vs_inv))).mono ?_;rintro e W ⟨rfl,hB⟩;exact⟨_,rfl,hB,.bool _⟩
end Go.Proofs.Am

/- Decisions: what has enough votes; the program's and the document's. -/
namespace Go.Proofs.Am
open Go Go.RowKit
open Go.Proofs
theorem anm(c:Cs)(s:List Int)(hs:s.length<=1000000):Den Tryz.prog 112 [.agg (cs c),.vs (s.map i1)] [] (.int .i64 (ckS c s)) [] []:=by
 refine aa Tryz.func112 rfl Tryz.call112 Tryz.ntmps112 Tryz.results112 (by simp) (by kernel_rfl) [] (exts:=[]) rfl rfl ?_;have c1:=aib c;have c2:=amu s hs;rw[dt]at c1 ⊢;rw[pv];simp only[go_sem];refine call c1 [] ?_
 cases a1:fq c
 ·simp only[go_sem]
 ·simp only[go_sem];refine call c2 [] ?_
  cases a2:j5 s
  ·simp only[go_sem]
  ·simp only[go_sem]
def agf(m:Nat)(N:List Cn)(i:Nat):List Ct:=((N.take i).filter fun n=>ag6 n.ks.length m).map Cn.x
theorem afh{m:Nat}{N:List Cn}{i:Nat}(h:i<N.length):agf m N (i+1)=agf m N i++if ag6 (el N i).ks.length m=true then [(el N i).x]else []:=by
 simp only[agf,c9 h,List.filter_append,List.map_append,List.filter_cons,List.filter_nil];split<;>rfl
theorem aj2(m:Nat)(N:List Cn)(i:Nat):(agf m N i).length<=N.length:=by
 simp only[agf,List.length_map];refine Nat.le_trans (List.length_filter_le _ _) ?_;rw[List.length_take];omega
theorem ak6{seats:List Int}{v:List Vt}:agf seats.length (cnR seats v) (cnR seats v).length=acs seats v:=by simp only[agf,List.take_length,acs]
theorem agr(v s:Nat):Den Tryz.prog 102 [.int .i64 v,.int .i64 s] [] (.bool (ag6 v s)) [] []:=by
 have h:=alq v s
 rwa [show mf v s=ag6 v s by simp only[mf,ag6];congr 1;apply propext;omega]at h
theorem a35(l:List Stm)(c:Cs)(seats:List Int)(hl:l.length<=900)(hs: ∀s∈l,uv s)(hb:seats.length<=1000000):
  Den Tryz.prog 81 [.vs (l.map sm),.agg (cs c),.vs (seats.map i1)] [] (.tup [.vs ((if ckS c seats=0 then acs seats (d5 l c)else []).map ct),.int .i64 (ckS c seats)]) [] []:=by
 refine aa Tryz.func81 rfl Tryz.call81 Tryz.ntmps81 Tryz.results81 (by simp) (by kernel_rfl) [] (exts:=[]) rfl rfl ?_;have hbs:big seats.length:=by simp only[big];omega
 have c1:=anm c seats hb;have c2:=alx l c (by omega) hs;have lV:=w8 l c;have xV:=po (l:=l) (c:=c);rw[dt]at c1 c2;generalize hk:ckS c seats=k at*;generalize d5 l c=V at*;have c3:=a5b V seats (by omega) hbs xV;rw[axa xV]at c3;have hok:=adw seats (fun y hy=>(xV y hy).1) V.length (Nat.le_refl _);have hN:cnI seats V V.length=cnR seats V:=rfl;rw[hN]at hok;have hall:=ak6 (seats:=seats) (v:=V);have hks:k=0->∀n∈cnR seats V,n.ks.length<=seats.length:=fun _ n hn=>a4t hn;generalize acs seats V=A at*;generalize cnR seats V=N at*;clear hN;simp only[go_sem,dt];refine call c1 [] ?_;by_cases hz:k=0
 rotate_left
 ·simp only[go_sem,hz]
 ·subst hz;simp only[go_sem];refine call c2 [] ?_;simp only[go_sem];refine call c3 [] ?_;simp only[go_sem];refine dm 9 110 25 2 false ?_ ?_ ?_ (by omega)
  ·refine loop Tryz.mixed 0 (fun i:Nat=>[(2,.vs (seats.map i1)),(9,.os 110 (agf seats.length N i).length),(22,.vs (N.map cn3)),(23,.int .i64 N.length),(24,.int .i64 i)]) (fun i=>[(110,.arr 25 2 false ((agf seats.length N i).map ct))]) (fun i=>i<=N.length) (fun i=>N.length - i) (by kernel_rfl) (Nat.zero_le _) ?_ ?_
   ·simp only[go_sem];simp[agf]
   ·intro i hi;by_cases hlt:i<N.length
    ·have h1:(i:Int)<(N.length:Int):=by omega
     have hsu:=afh (m:=seats.length) hlt;have hln:=aj2 seats.length N i;have hkn:=hks rfl _ (bz hlt);have ce:=ag5 (el N i).ks.length seats.length (by omega) hb;generalize agf seats.length N i=o at*;simp only[go_sem,h1,hlt];refine call ce [] ?_
     cases he:ag6 (el N i).ks.length seats.length
     ·rw[he,if_neg (by simp),List.append_nil]at hsu;simp only[go_sem];refine⟨i+1,⟨by omega,by omega⟩,?_⟩;rw[hsu];exact⟨⟨rfl,by rw[ai]<;>omega⟩,rfl⟩
     ·rw[he,if_pos rfl]at hsu;simp only[go_sem];refine⟨by omega,i+1,⟨by omega,by omega⟩,?_⟩;rw[hsu];exact⟨⟨by simp,by rw[ai]<;>omega⟩,by simp[ct]⟩
    ·have h1: ¬(i:Int)<(N.length:Int):=by omega
     have:i=N.length:=by omega
     subst this;simp only[go_sem,h1,hall]
  ·simp only[go_sem]
  ·simp only[go_sem]
theorem awq(l:List Stm)(c:Cs)(seats:List Int)(hl:l.length<=900)(hs: ∀s∈l,uv s)(hb:big seats.length):
  Den Tryz.prog 75 [.vs (l.map sm),.agg (cs c),.vs (seats.map i1)] [] (.tup [.vs ((if ckS c seats=0 then acs seats (d5 l c)else []).map ct),.int .i64 (ckS c seats)]) [] []:=by
 refine aa Tryz.func75 rfl Tryz.call75 Tryz.ntmps75 Tryz.results75 (by simp) (by kernel_rfl) [] (exts:=[]) rfl rfl ?_;have c1:=agj c seats hb;have c2:=af5 l c (by omega) hs;rw[<-aky]at c2;have lV:=w8 l c;have xV:=po (l:=l) (c:=c);rw[dt]at c1 c2;generalize hk:ckS c seats=k at*;generalize d5 l c=V at*;have c3:=a2r seats V (by omega) hb (fun y hy=>(xV y hy).1);have hok:=adw seats (fun y hy=>(xV y hy).1) V.length (Nat.le_refl _);have hN:cnI seats V V.length=cnR seats V:=rfl;rw[hN]at hok;have hall:=ak6 (seats:=seats) (v:=V);generalize acs seats V=A at*;generalize cnR seats V=N at*;clear hN;simp only[go_sem,dt];refine call c1 [] ?_;by_cases hz:k=0
 rotate_left
 ·simp only[go_sem,hz]
 ·subst hz;simp only[go_sem];refine call c2 [] ?_;simp only[go_sem];refine call c3 [] ?_;simp only[go_sem];refine dm 10 110 25 2 false ?_ ?_ ?_ (by omega)
  ·refine loop Tryz.mixed 0 (fun i:Nat=>[(2,.vs (seats.map i1)),(9,.vs (N.map cn3)),(10,.os 110 (agf seats.length N i).length),(11,.int .i64 i)]) (fun i=>[(110,.arr 25 2 false ((agf seats.length N i).map ct))]) (fun i=>i<=N.length) (fun i=>N.length - i) (by kernel_rfl) (Nat.zero_le _) ?_ ?_
   ·simp only[go_sem];simp[agf]
   ·intro i hi;by_cases hlt:i<N.length
    ·have h1:(i:Int)<(N.length:Int):=by omega
     have hsu:=afh (m:=seats.length) hlt;have hln:=aj2 seats.length N i;have ce:=agr (el N i).ks.length seats.length;generalize agf seats.length N i=o at*;simp only[go_sem,h1,hlt];refine call ce [] ?_
     cases he:ag6 (el N i).ks.length seats.length
     ·rw[he,if_neg (by simp),List.append_nil]at hsu;simp only[go_sem];refine⟨i+1,⟨by omega,by omega⟩,?_⟩;rw[hsu];exact⟨⟨rfl,by rw[ai]<;>omega⟩,rfl⟩
     ·rw[he,if_pos rfl]at hsu;simp only[go_sem,hlt];refine⟨by omega,i+1,⟨by omega,by omega⟩,?_⟩;rw[hsu];exact⟨⟨by simp,by rw[ai]<;>omega⟩,by simp[ct]⟩
    ·have h1: ¬(i:Int)<(N.length:Int):=by omega
     have:i=N.length:=by omega
     subst this;simp only[go_sem,h1,hall]
  ·simp only[go_sem]
  ·simp only[go_sem]
def yh(A:List Ct):Ct:=if A.length=1 then el A 0 else noC
theorem a31(l:List Stm)(c:Cs)(seats:List Int)(hl:l.length<=900)(hs: ∀s∈l,uv s)(hb:seats.length<=1000000)(A:List Ct)(hA:A=if ckS c seats=0 then acs seats (d5 l c)else [])(hA2:big A.length):
  Den Tryz.prog 59 [.vs (l.map sm),.agg (cs c),.vs (seats.map i1)] [] (.tup [.agg (ct (yh A)),.bool (decide (A.length=1)),.int .i64 (ckS c seats)]) [] []:=by
 refine aa Tryz.func59 rfl Tryz.call59 Tryz.ntmps59 Tryz.results59 (by simp) (by kernel_rfl) [] (exts:=[]) rfl rfl ?_;have c1:=a35 l c seats hl hs hb;rw[<-hA,dt]at c1;have hne:ckS c seats≠0->A=[]:=fun h=>by rw[hA,if_neg h]
 generalize ckS c seats=k at*;clear hA;rw[dt];simp only[go_sem];refine call c1 [] ?_;by_cases hz:k=0
 rotate_left
 ·have:=hne hz;subst this;simp only[go_sem,hz,yh,noC,List.length_nil]
 ·subst hz;by_cases h1:A.length=1
  ·obtain⟨x,rfl⟩:=List.length_eq_one_iff.1 h1;simp only[go_sem,yh,List.length_singleton,List.map_cons,List.map_nil];exact⟨rfl,rfl⟩
  ·have h2: ¬(A.length:Int)=1:=by omega
   simp only[go_sem,h1,h2,yh,noC]
theorem ato(l:List Stm)(c:Cs)(seats:List Int)(hl:l.length<=900)(hs: ∀s∈l,uv s)(hb:big seats.length)(A:List Ct)(hA:A=if ckS c seats=0 then acs seats (d5 l c)else [])(hA2:big A.length):
  Den Tryz.prog 55 [.vs (l.map sm),.agg (cs c),.vs (seats.map i1)] [] (.tup [.agg (ct (yh A)),.bool (decide (A.length=1)),.int .i64 (ckS c seats)]) [] []:=by
 refine aa Tryz.func55 rfl Tryz.call55 Tryz.ntmps55 Tryz.results55 (by simp) (by kernel_rfl) [] (exts:=[]) rfl rfl ?_;have c1:=awq l c seats hl hs hb;rw[<-hA,dt]at c1;have hne:ckS c seats≠0->A=[]:=fun h=>by rw[hA,if_neg h]
 generalize ckS c seats=k at*;clear hA;rw[dt];simp only[go_sem];refine call c1 [] ?_;by_cases hz:k=0
 rotate_left
 ·have:=hne hz;subst this;simp only[go_sem,hz,yh,noC,List.length_nil]
 ·subst hz;by_cases h1:A.length=1
  ·obtain⟨x,rfl⟩:=List.length_eq_one_iff.1 h1;simp only[go_sem,yh,List.length_singleton,List.map_cons,List.map_nil];exact⟨rfl,rfl⟩
  ·have h2: ¬(A.length:Int)=1:=by omega
   simp only[go_sem,h1,h2,yh,noC]
def ce(c:Cs)(l:List Stm):List PV:=[.int .i64 c.ep,.int .i64 c.kd,.int .i64 c.su,.int .i64 c.ro,.vs (l.map sm)]
def zx(l:List Stm)(i:Nat):List PV:=if i=0 then [.nils,.nils]else ct (ez (el l 0)).1.x
theorem a82(l:List Stm):zx l 0=[.nils,.nils]:=rfl
end Go.Proofs.Am
