/- HOne. -/
import Derived.Test.YtloaichcpoboeaaGreatDoorEOne
import Derived.Test.YtloaichcpoboeaaGreatDoorGOne
import Derived.Test.YtloaichcpoboeaaGreatDoorZOne
import Derived.Test.YtloaichcpoboeaaGreatDoorShP
import Derived.RangeFuncNested
import Derived.RangeFuncBound
import Derived.RangeFuncCalls
import Derived.RangeFuncLeaves
import Derived.Shelf.Abstract
import Derived.Shelf.RegionOpen
import Derived.WalkKit
import Derived.OwnWalkIn
import Derived.TacticsInMore
import Derived.LoopNIn
import Derived.LoopIn
import Derived.RangeFuncBox
import Derived.Maps.AppendAt
import Derived.Test.YtloaichcpoboeaaGreatDoorTX1
import Derived.Lib.SlKeysI
set_option maxHeartbeats 2000000
set_option maxRecDepth 100000
set_option linter.unusedSimpArgs false
set_option linter.unusedVariables false
namespace Go.Proofs.Am
open Go Go.RowKit
open Go.Proofs
def vu(k:Int):Bool:=decide (0<=k/\k<64)
theorem im{k:Int}:vu k=true↔0<=k/\k<64:=by simp[vu]
def art(l:List Int)(s:List Bool):List Bool:=l.foldl (fun s k=>if vu k=true then s.set k.toNat true else s) s
def avc(l:List Int)(i:Nat):List Bool:=art (l.take i) (List.replicate 64 false)
def aj8(l:List Int):List Bool:=avc l l.length
theorem af9{l:List Int}{i:Nat}(h:i<l.length):avc l (i+1)=if vu (el l i)=true then(avc l i).set (el l i).toNat true else avc l i:=by
 simp only[avc,art,cu h,List.foldl_append,List.foldl_cons,List.foldl_nil]
theorem rh(l:List Int): ∀i,i<=l.length->(avc l i).length=64
 |0,_=>by simp[avc,art]
 |i+1,h=>by
  have ih:=rh l i (by omega);rw[af9 (by omega)];split
  ·rw[List.length_set,ih]
  ·exact ih
theorem ajz: ∀(l:List Int) (s:List Bool) (n:Nat),s[n]? =some true->(art l s)[n]? =some true
 |[],_,_,h=>h
 |k::l,s,n,h=>by
  have hn:n<s.length:=(cr.1 h).1;show(art l (if vu k=true then s.set k.toNat true else s))[n]? =some true;refine ajz l _ n ?_;split
  ·rw[List.getElem?_set];split
   ·simp;omega
   ·exact h
  ·exact h
theorem apv: ∀(l:List Int) (s:List Bool),s.length=64->∀k∈l,vu k=true->(art l s)[k.toNat]? =some true
 |[],_,_,k,h,_=>by cases h
 |j::l,s,hs,k,h,hk=>by
  show(art l (if vu j=true then s.set j.toNat true else s))[k.toNat]? =some true;rcases List.mem_cons.1 h with rfl|h
  ·rw[if_pos hk];refine ajz l _ _ ?_;have:=im.1 hk;rw[List.getElem?_set_self (by omega)]
  ·refine apv l _ ?_ k h hk;split
   ·rw[List.length_set,hs]
   ·exact hs
theorem bdr{l:List Int}{k:Int}(h:k∈l)(hk:vu k=true):aj8 l≠List.replicate 64 false:=fun e=>by
 have h1:=apv (l.take l.length) (List.replicate 64 false) (by simp) k (by rwa [List.take_length]) hk;have e2:art (l.take l.length) (List.replicate 64 false)=List.replicate 64 false:=e;rw[e2,List.getElem?_replicate]at h1;split at h1<;>cases h1
def pd(l:List Int)(i:Nat):Bool:=vu (el l i)&&(decide (i=0)||decide (el l (i - 1)<el l i))
def lm(l:List Int):Bool:=aaf (pd l) l.length&&decide (aj8 l≠List.replicate 64 false)
theorem a1d{l:List Int}(h: ∀i,0<i->i<l.length->el l (i - 1)<el l i):asc l:=by
 have main: ∀j,j<l.length->∀i,i<j->el l i<el l j:=fun j=>by
  induction j with
  |zero=>intro _ i hi;omega
  |succ j ih=>
   intro hj i hi;have h1:=h (j+1) (by omega) hj;rw[Nat.add_sub_cancel]at h1;rcases Nat.lt_succ_iff_lt_or_eq.1 hi with h2|rfl
   ·have:=ih (by omega) i h2;omega
   ·exact h1
 unfold asc;rw[List.pairwise_iff_getElem];intro i j hi hj hij;have:=main j hj i hij;simpa [el,aw,hi,hj] using this
theorem ru{l:List Int}:lm l=true↔l≠[]/\(∀k∈l,vu k=true)/\asc l:=by
 unfold lm;rw[Bool.and_eq_true,decide_eq_true_eq,aaf,decide_eq_true_eq];constructor
 ·rintro⟨h1,h2⟩;refine⟨fun e=>h2 (by rw[e];rfl),fun k hk=> ?_,a1d fun i h0 hi=> ?_⟩
  ·obtain⟨i,hi,rfl⟩:=ahe hk;have:=h1 i hi;simp only[pd,Bool.and_eq_true]at this;exact this.1
  ·have:=h1 i hi;simp only[pd,Bool.and_eq_true,Bool.or_eq_true,decide_eq_true_eq]at this;rcases this.2 with h|h
   ·omega
   ·exact h
 ·rintro⟨h1,h2,h3⟩;refine⟨fun i hi=> ?_,?_⟩
  ·simp only[pd,Bool.and_eq_true,Bool.or_eq_true,decide_eq_true_eq];refine⟨h2 _ (cj hi),?_⟩;rcases Nat.eq_zero_or_pos i with h|h
   ·exact .inl h
   ·have:=List.pairwise_iff_getElem.1 h3 (i - 1) i (by omega) hi (by omega);exact .inr (by simpa [el,aw,hi,show i - 1<l.length by omega] using this)
  ·obtain⟨k,r,rfl⟩:=List.exists_cons_of_ne_nil h1;exact bdr (k:=k) (by simp) (h2 k (by simp))
def kv(s:List Int):Bool:=lm (srt s)&&decide (s.length<=9)
theorem jt{s:List Int}:kv s=true↔s≠[]/\(∀k∈s,vu k=true)/\s.Nodup/\s.length<=9:=by
 unfold kv;rw[Bool.and_eq_true,decide_eq_true_eq,ru];have hn:srt s≠[]↔s≠[]:=by rw[ne_eq,ne_eq,<-List.length_eq_zero_iff,<-List.length_eq_zero_iff,gx]
 have hm:(∀k∈srt s,vu k=true)↔∀k∈s,vu k=true:=by simp only[ako]
 have ha:asc (srt s)↔s.Nodup:=⟨fun h=>(List.mergeSort_perm _ _).nodup_iff.1 (h.imp fun h=>by omega),bdc⟩;rw[hn,hm,ha,and_assoc,and_assoc]
theorem a1v{s:List Int}:aaf (a9v s) s.length=true↔(∀k∈s,vu k=true)/\s.Nodup:=by
 rw[aaf,decide_eq_true_eq];constructor
 ·intro h;refine⟨fun k hk=> ?_,?_⟩
  ·obtain⟨i,hi,rfl⟩:=ahe hk;have:=of_decide_eq_true (h i hi);exact im.2 ⟨this.1,this.2.1⟩
  ·unfold List.Nodup;rw[List.pairwise_iff_getElem];intro i j hi hj hij e;have:=(of_decide_eq_true (h j hj)).2.2;refine this ?_;have e2:el s j=s[j]:=by simp[el,aw,hj]
   rw[e2,<-e];exact List.mem_iff_getElem.2 ⟨i,by simp;omega,by simp⟩
 ·rintro⟨h1,h2⟩ i hi;obtain⟨h3,h4⟩:=im.1 (h1 _ (cj hi));refine decide_eq_true ⟨h3,h4,fun h=> ?_⟩;obtain⟨j,hj,e⟩:=List.mem_iff_getElem.1 h;have hj':j<i:=by simp at hj;omega
  rw[List.getElem_take]at e;have e2:el s i=s[i]:=by simp[el,aw,hi]
  rw[e2]at e;exact List.pairwise_iff_getElem.1 h2 j i (by omega) hi hj' e
theorem q8(c:Cs)(s:List Int):ckS c s=if l6 c=false then 41 else if kv s=true then 0 else 44:=by
 unfold ckS;split
 ·rfl
 ·by_cases h:kv s=true
  ·rw[if_pos h];obtain⟨h1,h2,h3,h4⟩:=jt.1 h;have:s.length≠0:=fun e=>h1 (List.eq_nil_of_length_eq_zero e);rw[if_neg (by omega),if_pos (a1v.2 ⟨h2,h3⟩)]
  ·rw[if_neg h];split
   ·rfl
   ·rename_i h5;rw[if_neg fun h6=>h (jt.2 ⟨fun e=>by subst e;simp at h5,(a1v.1 h6).1,(a1v.1 h6).2,by omega⟩)]
theorem a3q{c:Cs}{s:List Int}(h:ckS c s=0):l6 c=true/\s.length<=9/\s.Nodup/\∀k∈s,0<=k/\k<64:=by
 rw[q8]at h;split at h
 ·cases h
 ·split at h
  ·rename_i h1 h2;obtain⟨h3,h4,h5,h6⟩:=jt.1 h2;exact⟨by simpa using h1,h6,h5,fun k hk=>im.1 (h4 k hk)⟩
  ·cases h
theorem anw(k:Int):Den Tryz.prog 178 [.int .i64 k] [] (.bool (vu k)) [] []:=by
 refine aa Tryz.func178 rfl Tryz.call178 Tryz.ntmps178 Tryz.results178 (by simp) (by kernel_rfl) [] (exts:=[]) rfl rfl ?_;by_cases h1:0<=k
 ·by_cases h2:k<64
  ·simp only[go_sem,h1,h2];simp[vu,h1,h2]
  ·simp only[go_sem,h1,h2];simp[vu,h2]
 ·simp only[go_sem,h1];simp[vu,h1]
def z64:List Bool:=List.replicate 64 false
theorem afp(l:List Int)(hl:big l.length):Den Tryz.prog 179 [.vs (l.map i1)] [] (.agg ((aj8 l).map cb)) [] []:=by
 refine aa Tryz.func179 rfl Tryz.call179 Tryz.ntmps179 Tryz.results179 (by simp) (by kernel_rfl) [] (exts:=[]) rfl rfl ?_;have hz:avc l 0=z64:=rfl;simp only[go_sem];refine loop Tryz.mixed 0 (fun i:Nat=>[(2,.ptr 2 0),(3,.ptr 3 0),(6,.vs (l.map i1)),(7,.int .i64 l.length),(8,.int .i64 i)]) (fun i=>[(2,.cells (z64.map cb)),(3,.cells ((avc l i).map cb))]) (fun i=>i<=l.length) (fun i=>l.length - i) (by kernel_rfl) (Nat.zero_le _) ?_ ?_
 ·simp only[go_sem,hz];exact⟨rfl,rfl⟩
 ·intro i hi;have hln:=rh l i hi;by_cases hlt:i<l.length
  ·have h1:(i:Int)<(l.length:Int):=by omega
   have hsu:=af9 hlt;have ck:=anw (el l i);generalize avc l i=s at*
   cases hk:vu (el l i)
   ·rw[hk]at ck;rw[hk,if_neg (by simp)]at hsu;simp only[go_sem,h1,hlt];refine call ck [] ?_;simp only[go_sem];refine⟨i+1,⟨by omega,by omega⟩,?_⟩;rw[hsu];simp only[go_sem];rw[ae]<;>omega
   ·rw[hk]at ck;rw[hk,if_pos rfl]at hsu;obtain⟨k1,k2⟩:=im.1 hk;obtain⟨k,hkk⟩: ∃k:Nat,el l i=(k:Int):=⟨(el l i).toNat,by omega⟩;have k3:k<s.length:=by omega
    have k4:k<64:=by omega
    rw[hkk]at ck hsu;rw[Int.toNat_natCast]at hsu;simp only[go_sem,h1,hlt,hkk];refine call ck [] ?_;simp only[go_sem,k3,k4];exact⟨by omega,i+1,⟨by omega,by omega⟩,by rw[ae]<;>omega,hsu.symm⟩
  ·have h1: ¬(i:Int)<(l.length:Int):=by omega
   have:i=l.length:=by omega
   subst this;have e3:z64.length=64:=rfl;have e4:z64.drop 64=[]:=rfl;have e5:aj8 l=avc l l.length:=rfl;rw[e5];generalize avc l l.length=s at*;have e1:s.take 64=s:=List.take_of_length_le (by omega);simp only[go_sem,h1,e1,e3,e4,hln]
theorem agw(l:List Int)(hl:big l.length):Den Tryz.prog 127 [.vs (l.map i1)] [] (.bool (lm l)) [] []:=by
 refine aa Tryz.func127 rfl Tryz.call127 Tryz.ntmps127 Tryz.results127 (by simp) (by kernel_rfl) [] (exts:=[]) rfl rfl ?_;have hv: ∀b,lm l=b->lm l=b:=fun _ h=>h;have hbad: ∀i,i<l.length->pd l i=false->lm l=false:=fun i hi h=>by rw[lm,fe hi h,Bool.false_and]
 have hgood:(∀i,i<l.length->pd l i=true)->lm l=decide (aj8 l≠List.replicate 64 false):=fun h=>by rw[lm,ng h,Bool.true_and]
 have cset:=afp l hl;have sl:(aj8 l).length=64:=rh l l.length (Nat.le_refl _);generalize lm l=v at*;simp only[go_sem];refine loop Tryz.mixed 0 (fun i:Nat=>[(0,.vs (l.map i1)),(5,.vs (l.map i1)),(6,.int .i64 l.length),(7,.int .i64 i)]) (fun _=>[]) (fun i=>i<=l.length/\∀j,j<i->pd l j=true) (fun i=>l.length - i) (by kernel_rfl) ⟨Nat.zero_le _,by simp⟩ ?_ ?_
 ·simp only[go_sem]
 ·rintro i ⟨hi,hp⟩;by_cases hlt:i<l.length
  ·have h1:(i:Int)<(l.length:Int):=by omega
   simp only[go_sem,h1,hlt];refine call (anw (el l i)) [] ?_
   cases hk:vu (el l i)
   ·have hq:pd l i=false:=by simp[pd,hk]
    simp only[go_sem,h1,hlt];exact(hbad i hlt hq).symm
   ·rcases Nat.eq_zero_or_pos i with h0|h0
    ·subst h0;have hq:pd l 0=true:=by simp[pd,hk]
     have g: ¬(0:Int)<((0:Nat):Int):=by omega
     simp only[go_sem,h1,hlt,g];exact⟨0+1,⟨⟨by omega,br hp hq⟩,by omega⟩,rfl⟩
    ·obtain⟨j,rfl⟩: ∃j,i=j+1:=⟨i - 1,by omega⟩;have g:(0:Int)<((j+1:Nat):Int):=by omega
     have g2:IntKind.i64.wrap (((j+1:Nat):Int) - 1)=(j:Int):=by rw[ae]<;>omega
     have g3:j<l.length:=by omega
     by_cases h2:el l (j+1)<=el l j
     ·have hq:pd l (j+1)=false:=by simp[pd,hk];omega
      simp only[go_sem,h1,hlt,g,g2,g3,h2];exact(hbad (j+1) hlt hq).symm
     ·have hq:pd l (j+1)=true:=by simp[pd,hk];omega
      simp only[go_sem,h1,hlt,g,g2,g3,h2];exact⟨j+1+1,⟨⟨by omega,br hp hq⟩,by omega⟩,by rw[ae]<;>omega⟩
  ·have h1: ¬(i:Int)<(l.length:Int):=by omega
   have:i=l.length:=by omega
   subst this;have hv:=hgood hp;have he:=a00 (aj8 l) (List.replicate 64 false) (by rw[sl];simp);rw[sl]at he;simp only[go_sem,h1];refine call cset [] ?_;generalize aj8 l=s at*;simp only[go_sem];change (match ya (List.replicate 64 CK.bool) (List.map cb s) (List.map cb (List.replicate 64 false))with|some b=>(!b)=v|none=>False);rw[he,hv];simp
theorem akx(v s:Nat)(hv:v<=1000000)(hs:s<=1000000):Den Tryz.prog 112 [.int .i64 v,.int .i64 s] [] (.bool (azb v s)) [] []:=by
 refine aa Tryz.func112 rfl Tryz.call112 Tryz.ntmps112 Tryz.results112 (by simp) (by kernel_rfl) [] (exts:=[]) rfl rfl ?_;have e1:IntKind.i64.wrap (4*(v:Int))=4*v:=by rw[ae]<;>omega
 have e2:IntKind.i64.wrap (3*(s:Int))=3*s:=by rw[ae]<;>omega
 have h3:(0:Int)<=(v:Int):=by omega
 by_cases h1:1<=(s:Int)
 ·by_cases h2:(s:Int)<=9
  ·by_cases h4:(v:Int)<=(s:Int)
   ·simp only[go_sem,h1,h2,h3,h4,e1,e2];rw[azb,Bool.eq_iff_iff];simp only[decide_eq_true_eq];omega
   ·have:azb v s=false:=decide_eq_false (by omega);simp only[go_sem,h1,h2,h3,h4,this]
  ·have:azb v s=false:=decide_eq_false (by omega);simp only[go_sem,h1,h2,this]
 ·have:azb v s=false:=decide_eq_false (by omega);simp only[go_sem,h1,this]
end Go.Proofs.Am

/- Iterators at the level of worlds: what a walk over an iterator leans on. -/
namespace Go.Proofs.Am
open Go Go.RowKit Go.Shelf
open Go.Proofs
def KeepQ(S:Addr->Prop)(A B:World):Prop:=A.heap.size<=B.heap.size/\∀a,S a->B.cell? a=A.cell? a
def NumQ(S:Addr->Prop)(W:World)(v:Value)(l:List Int):Prop:=RP (fun a u=>W.cell? a=some u/\S a) v (.vs (l.map i1))
theorem aa5{S:Addr->Prop}{W:World}{v:Value}{l:List Int}(h:NumQ S W v l): ∃(a:Option Addr) (c:Nat),v= .slice a l.length c/\l.length<=c/\(0<l.length->∃ad,a=some ad/\∀i,i<l.length->W.cell? (ad.add i)=some (.int .i64 (el l i))/\S (ad.add i)):=by
 obtain⟨a,c,sz,U,h1,h2,h3,h4,h5,h6⟩:=h.vs_inv;simp only[List.length_map]at h1 h2 h5;refine⟨a,c,h1,h2,fun h0=> ?_⟩;obtain⟨ad,rfl,h7⟩:=h5 h0;refine⟨ad,rfl,fun i hi=> ?_⟩
 have hsz:sz=1:=by
  have:=h3 (i1 (el l 0)) (List.mem_map.2 ⟨_,cj h0,rfl⟩);simpa [i1] using this.symm
 subst hsz;have e1:(l.map i1)[i]? =some [.int .i64 (el l i)]:=by rw[List.getElem?_map,a8 hi,aa3 l i hi];rfl
 have:=h7 i _ 0 _ e1 rfl;rw[Nat.mul_one,Nat.add_zero]at this;have hu:=h6 i _ 0 _ e1 rfl
 have:U i 0= .int .i64 (el l i):=by
  generalize U i 0=u at hu
  cases hu;rfl
 have h8:=h7 i _ 0 _ e1 rfl;rw[Nat.mul_one,Nat.add_zero,this]at h8;exact h8
theorem NumQ.keep{S:Addr->Prop}{A B:World}{v:Value}{l:List Int}(h:NumQ S A v l)(hk:KeepQ S A B):NumQ S B v l:=
 RP.mono (fun a u ⟨h1,h2⟩=>⟨(hk.2 a h2).trans h1,h2⟩) h
theorem KeepQ.refl(S:Addr->Prop)(A:World):KeepQ S A A:=⟨Nat.le_refl _,fun _ _=>rfl⟩
theorem KeepQ.trans{S:Addr->Prop}{A B C:World}(h:KeepQ S A B)(k:KeepQ S B C):KeepQ S A C:=⟨Nat.le_trans h.1 k.1,fun a ha=>(k.2 a ha).trans (h.2 a ha)⟩
theorem bjj:(Tryz.prog.info? 3).map (fun i=>(i.zero,i.size,i.bytes))=some (some (.int .i64 0),1,8):=by kernel_rfl
theorem ahk{S:Addr->Prop}{w1 W:World}{l:Nat}{o':Obj}(hS: ∀a,S a->a.block<w1.heap.size)(hl:w1.heap.size<=l):KeepQ S W (W.putObj l o'):=
 ⟨by simp,fun a ha=>World.cell?_of_block (World.putObj_heap_other (fun e=>by have:=hS a ha;omega))⟩
theorem NumQ.wide{S T:Addr->Prop}{W:World}{v:Value}{l:List Int}(h:NumQ S W v l)(hS: ∀a,S a->T a):NumQ T W v l:=
 RP.mono (fun a u ⟨h1,h2⟩=>⟨h1,hS a h2⟩) h
theorem bb6{W:World}{N e:Nat}{v:Value}{l:List Int}(h:W.ownsRow N e 1 v l.length (l.map (Value.int .i64))):RP (fun a x=>W.cell? a=some x/\N<=a.block) v (.vs (l.map i1)):=by
 by_cases hv:v= .slice none 0 0
 ·subst hv;rcases h.2 with ⟨_,h0⟩|⟨g,cap,cur,he,_⟩
  ·have:l=[]:=List.eq_nil_of_length_eq_zero h0;subst this;exact .vs (sz:=0) (fun _ _=>Go.undef) rfl (Nat.le_refl _) (by simp) (by simp) (by omega) fun i x j u hx hu=>by simp at hx
  ·cases he
 ·obtain⟨g,cap,rfl,hb,_,hc,_,_,hH⟩:=Lib.holds_of_ownsRow h hv
  have hi: ∀(i:Nat) (x:List PV) (j:Nat) (u:PV),(l.map i1)[i]? =some x->x[j]? =some u->i<l.length/\j=0/\u= .int .i64 (el l i):=fun i x j u hx hu=>by
   rw[List.getElem?_map]at hx
   cases hl:l[i]? with
   |none=>rw[hl]at hx;cases hx
   |some y=>
    rw[hl]at hx;simp only[Option.map_some,Option.some.injEq]at hx;subst hx;have hil:=(cr.1 hl).1
    cases j with
    |zero=>simp[i1]at hu;exact⟨hil,rfl,by rw[<-hu,aa3 l i hil];simp[(cr.1 hl).2]⟩
    |succ j=>simp[i1]at hu
  refine .vs (sz:=1) (fun i _=> .int .i64 (el l i)) (by simp) hc (by simp[i1]) (by simp[i1,fu]) (fun _=>⟨_,rfl,fun i x j u hx hu=> ?_⟩) fun i x j u hx hu=> ?_
  ·obtain⟨h1,rfl,_⟩:=hi i x j u hx hu;have:=(hH i (by simpa using h1)).1
   have ea:(⟨g,0,none⟩:Addr).add (i*1+0)=⟨g,0+i,none⟩:=by
    unfold Addr.add;split<;>simp_all
   rw[ea];refine⟨?_,hb⟩;rw[this,aa3 l i h1];simp[getElem!_pos,h1]
  ·obtain⟨h1,rfl,rfl⟩:=hi i x j u hx hu;exact .int _ _
end Go.Proofs.Am

/- decision.seated: numbers are handed out by an iterator, and sorted. -/
namespace Go.Proofs.Am
open Go Go.RowKit Go.Shelf Go.Sort
open Go.Proofs
attribute [local go_sem] Oper.semAt_some
theorem ate(n:Nat)(l b1:Nat)(seats:List Int)(ad:Option Addr)(c:Nat)(S:Addr->Prop)(J Jx:List Int->World->Prop)(W:World)
  (ho:seats.length<=1000000)
  (hY: ∀pre x W,J pre W->pre.length<seats.length->YieldAt Fence.wide (n - 1) Tryz.prog l #[.int .i64 x] W fun e W'=>
   (e= .returned (.bool true)/\J (pre++[x]) W'/\KeepQ S W W')\/(e= .returned (.bool false)/\Jx (pre++[x]) W'))
  (s1:S ⟨b1,0,none⟩) (h1:W.cell? ⟨b1,0,none⟩=some (.slice ad seats.length c))
  (nO:NumQ S W (.slice ad seats.length c) seats) (h0:J [] W):
  CallsIn Fence.wide n Tryz.prog 250 #[.func (.yield l) #[] #[],.pointer (some ⟨b1,0,none⟩)] W fun e W'=>(∃v,e= .returned v)/\
   ((∃ys,ys=seats/\J ys W')\/(∃pre,pre<+:seats/\Jx pre W')):=by
 refine callsIn_of_wp Tryz.func250 rfl trivial ?_ rfl;simp only[Tryz.ntmps250,List.size_toArray,List.length_cons,List.length_nil,Nat.reduceAdd,Nat.reduceSub,Array.replicate_succ,Array.replicate_zero,List.push_toArray,List.append_toArray,List.nil_append,List.cons_append]
 gi_wp2
 gi_loopw [7] (fun p wr=> ∃i:Nat,p= .int .i64 i/\i<=seats.length/\J (seats.take i) wr/\KeepQ S W wr)
  (fun p wr=>seats.length - (intOf p).toNat)
 case atStart=>
  exact⟨0,rfl,by omega,h0,.refl _ _⟩
 case round=>
  obtain⟨i,rfl,hi,hJs,hK⟩:=hrel;by_cases hi':i<seats.length
  ·obtain⟨ad',c',hv,_,hc⟩:=aa5 (nO.keep hK)
   cases hv
   obtain⟨ad1,had,hc2⟩:=hc (by omega);subst had;obtain⟨hci,_⟩:=hc2 i hi';have hlen:(seats.take i).length<seats.length:=by rw[List.length_take];omega
   obtain⟨fn,tmps,assign,body,hy,hRd⟩:=hY (seats.take i) (el seats i) wr hJs hlen
   gi_wp2
   refine⟨fun h=>(by cases h),hRd.mono ?_⟩;rintro e W4 (⟨rfl,hJ4,hK4⟩|⟨rfl,hJx4⟩)
   ·gi_wp2
    go_roundw
    case rel=>exact⟨i+1,rfl,by omega,by rw[cu hi'];exact hJ4,hK.trans hK4⟩
    case measure=>simp only[intOf];omega
   ·gi_wp2
    refine bodyPost_ret (results_none rfl _ _ _) rfl ?_;exact⟨⟨_,rfl⟩,.inr ⟨seats.take i++[el seats i],by rw[<-cu hi'];exact List.take_prefix _ _,hJx4⟩⟩
  ·have hi2:i=seats.length:=by omega
   subst hi2
   gi_wp2
   go_end0
   exact⟨⟨_,rfl⟩,.inl ⟨_,by rw[List.take_length],hJs⟩⟩
theorem agd(w:World)(S:Addr->Prop)(seats:List Int)(bb:Nat)(ad:Option Addr)(c:Nat)(ho:seats.length<=1000000)
  (hS: ∀a,S a->a.block<w.heap.size) (s1:S ⟨bb,0,none⟩) (h1:w.cell? ⟨bb,0,none⟩=some (.slice ad seats.length c)) (nO:NumQ S w (.slice ad seats.length c) seats):
  SeqStopsK Fence.wide 2 Tryz.prog 250 #[.pointer (some ⟨bb,0,none⟩)] (fun x:Int=> #[Value.int .i64 x]) (KeepQ S) (fun ys=>ys=seats) (fun pre=>pre<+:seats) seats.length w:=by
 intro l J Jx W hW hJ hJx hY h0;have hK:KeepQ S w W:=⟨hW.size,fun a ha=>hW.cell (hS a ha)⟩;exact ate 2 l bb seats ad c S J Jx W ho hY s1 ((hK.2 _ s1).trans h1) (nO.keep hK) h0
theorem a2e(w:World)(S:Addr->Prop)(seats:List Int)(bb:Nat)(ad:Option Addr)(c:Nat)(ho:seats.length<=1000000)
  (hS: ∀a,S a->a.block<w.heap.size) (s1:S ⟨bb,0,none⟩) (h1:w.cell? ⟨bb,0,none⟩=some (.slice ad seats.length c)) (nO:NumQ S w (.slice ad seats.length c) seats):
  CallsIn Fence.wide 3 Tryz.prog 299 #[.slice none 0 0,.func (.func 250) #[] #[.pointer (some ⟨bb,0,none⟩)]] w fun e W'=> ∃v,e= .returned v/\Below w.heap.size w W'/\W'.ownsRow w.heap.size 3 1 v seats.length (seats.map (Value.int .i64)):=by
 obtain⟨i0,hi,hz0,hz1,hz2⟩:=info_parts bjj;refine callsIn_of_wp_marks Tryz.func299 rfl trivial ?_ rfl;simp only[Tryz.ntmps299,List.size_toArray,List.length_cons,List.length_nil,Nat.reduceAdd,Nat.reduceSub,Array.replicate_succ,Array.replicate_zero,List.push_toArray,List.append_toArray,List.nil_append,List.cons_append]
 gi_wp2
 have hB0:Below w.heap.size w (w.alloc (.cells #[.slice none 0 0] 22)):=(Below.refl _ w).alloc (Nat.le_refl _) _;have bB:=Boxed.new w 22 (.slice none 0 0);have hsz:(w.alloc (.cells #[.slice none 0 0] 22)).heap.size=w.heap.size+1:=by simp
 generalize w.alloc (.cells #[.slice none 0 0] 22)=w1 at*;have hK1:KeepQ S w w1:=⟨hB0.size,fun a ha=>hB0.cell (hS a ha)⟩;have hS1: ∀a,S a->a.block<w1.heap.size:=fun a ha=>by have:=hS a ha;omega
 have hstops:=agd w1 S seats bb ad c ho hS1 s1 ((hK1.2 _ s1).trans h1) (nO.keep hK1)
 refine wpIn_rangeFunc_ownG rfl (by omega) (gf:=250) (lb:= #[.pointer (some ⟨bb,0,none⟩)]) rfl trivial (enters_of Tryz.func250 (by kernel_rfl) rfl)
  hstops KeepQ.trans (fun W l o o' hl ho' hc _=>ahk hS1 hl) (Below.refl _ _) (fun _=>rfl)
  (fun pre W=>(∃v,Boxed W w.heap.size 22 v/\W.ownsRow w.heap.size 3 1 v pre.length (pre.map (Value.int .i64))/\True)/\Below w.heap.size w W)
  (fun _ _ _=>False)
  (OwnFrom.and (Own.from (holdsRow_own w.heap.size w.heap.size 22 3 1 (fun pre:List Int=>pre.length) (fun pre=>pre.map (Value.int .i64)) (fun _ _=>True)) _) (ownFrom_below (Nat.le_refl _) (by omega)))
  (fun _ _ _ _ _ hs _ _=>hs)
  ⟨⟨_,bB,World.ownsRow_nil _ _ _ _,trivial⟩,hB0⟩
  (fun x=>{tmps:= #[.slice none 0 0,.func (.func 250) #[] #[.pointer (some ⟨bb,0,none⟩)],.pointer (some ⟨w.heap.size,0,none⟩),Go.undef,.slice none 0 0,.int .i64 x,.func (.func 250) #[] #[.pointer (some ⟨bb,0,none⟩)],.int .i64 x,Go.undef,Go.undef,Go.undef,Go.undef,Go.undef],defers:=[]}) ?assign ?body ?done ?stop
 case assign=>
  intro l x W K hK
  gi_wp2
  exact hK
 case body=>
  rintro l pre x W ⟨⟨v,hv,hrow,_⟩,hB⟩ hlt;have hc:=hv.cell
  gi_wp2_with (gi_at_builtin;refine wpListIn_append_own _ rfl _ _ 22 rfl w.heap.size 3 i0 (.int .i64 0) 1 8 Tryz.underlying22 hi hz0 hz1 hz2 rfl (by decide) _ _ _ rfl (hrow.alloc _) ⟨W.heap.size,0,none⟩ 1 1 [.int .i64 x] rfl rfl (cell_one_new _ _ _) (by simp[Value.oneCell']) (by simp only[maxLen];omega) (by omega) (by have:=hB.size;simp;omega) ?_;intro v' w1 hown' hgrow _;obtain⟨g',cap',rfl⟩:=ownsRow_succ hown';obtain⟨hv1,hv2,hr2,hk2,hbb2⟩:=hv.appended (by decide) hrow hB.size (Nat.le_refl _) hown' hgrow;have hc1:=hv1.cell;have hf1:=hv1.frozen)
  exact⟨hk2.from _,⟨hbb2.size,fun a ha=>hbb2.cell (hS a ha)⟩,⟨_,hv2,by simpa using hr2,trivial⟩,hB.trans hbb2⟩
 case done=>
  rintro D ys W hD rfl ⟨⟨v,hv,hrow,_⟩,hB⟩ hK;have hc:=hv.cell
  obtain⟨a4,c4,rfl⟩: ∃a c,v= .slice a ys.length c:=by
   rcases hrow.2 with ⟨rfl,hz⟩|⟨gb,cap,cur,rfl,_⟩
   ·exact⟨none,0,by rw[hz]⟩
   ·exact⟨_,_,rfl⟩
  gi_wp2
  refine⟨by simp,.inl ⟨_,_,rfl,run_takeDeferred hK,?_⟩⟩;exact⟨_,results_tmp rfl _ _ _,_,rfl,hB.trans (belowK_b (w:=w) (Nat.le_refl _) W D _ _ (by omega) hK rfl rfl),ownsRow_putObj hrow _ hK rfl⟩
 case stop=>
  rintro D c pre W _ _ h _;exact h.elim
theorem aiz{W:World}{N e:Nat}{v:Value}{k:Nat}{xs:List Value}(h:W.ownsRow N e 1 v k xs): ∃a c,v= .slice a k c:=by
 rcases h.2 with ⟨rfl,hz⟩|⟨gb,cap,cur,rfl,_⟩
 ·exact⟨none,0,by rw[hz]⟩
 ·exact⟨_,_,rfl⟩
theorem aud(w:World)(S:Addr->Prop)(seats:List Int)(bb:Nat)(ad:Option Addr)(c:Nat)(ho:seats.length<=1000000)
  (hS: ∀a,S a->a.block<w.heap.size) (s1:S ⟨bb,0,none⟩) (h1:w.cell? ⟨bb,0,none⟩=some (.slice ad seats.length c)) (nO:NumQ S w (.slice ad seats.length c) seats):
  CallsIn Fence.wide 4 Tryz.prog 249 #[.func (.func 250) #[] #[.pointer (some ⟨bb,0,none⟩)]] w fun e W'=> ∃v,e= .returned v/\Below w.heap.size w W'/\W'.ownsRow w.heap.size 3 1 v seats.length (seats.map (Value.int .i64)):=by
 refine callsIn_of_wp Tryz.func249 rfl trivial ?_ rfl;simp only[Tryz.ntmps249,List.size_toArray,List.length_cons,List.length_nil,Nat.reduceAdd,Nat.reduceSub,Array.replicate_succ,Array.replicate_zero,List.push_toArray,List.append_toArray,List.nil_append,List.cons_append]
 gi_wp2
 refine⟨trivial,(a2e w S seats bb ad c ho hS s1 h1 nO).mono ?_⟩;rintro e W ⟨v,rfl,hB,hrow⟩;obtain⟨a4,c4,rfl⟩:=aiz hrow
 gi_wp2
 go_ret
 exact⟨_,rfl,hB,hrow⟩
theorem a1a(w:World)(S:Addr->Prop)(seats:List Int)(bb:Nat)(ad:Option Addr)(c:Nat)(ho:seats.length<=1000000)
  (hS: ∀a,S a->a.block<w.heap.size) (s1:S ⟨bb,0,none⟩) (h1:w.cell? ⟨bb,0,none⟩=some (.slice ad seats.length c)) (nO:NumQ S w (.slice ad seats.length c) seats):
  CallsIn Fence.wide 5 Tryz.prog 208 #[.func (.func 250) #[] #[.pointer (some ⟨bb,0,none⟩)]] w fun e W'=> ∃v,e= .returned v/\Below w.heap.size w W'/\W'.ownsRow w.heap.size 3 1 v (srt seats).length ((srt seats).map (Value.int .i64)):=by
 refine callsIn_of_wp Tryz.func208 rfl trivial ?_ rfl;simp only[Tryz.ntmps208,List.size_toArray,List.length_cons,List.length_nil,Nat.reduceAdd,Nat.reduceSub,Array.replicate_succ,Array.replicate_zero,List.push_toArray,List.append_toArray,List.nil_append,List.cons_append]
 gi_wp2
 refine⟨trivial,(aud w S seats bb ad c ho hS s1 h1 nO).mono ?_⟩;rintro e W ⟨v,rfl,hB,hrow⟩;rcases hrow.2 with ⟨rfl,hz⟩|⟨gb,cap,cur,rfl,hbase,hgb,r1,r2,r3,r4⟩
 ·have hss:seats=[]:=List.eq_nil_of_length_eq_zero hz;subst hss
  gi_wp2
  refine⟨trivial,(callsIn_wide.2 (Any.slices_Sort_int_none Tryz.laysSort none 0 W)).mono ?_⟩;rintro e w' ⟨rfl,rfl⟩
  gi_wp2
  go_ret
  exact⟨_,rfl,hB,by simpa [srt] using hrow⟩
 ·have hH:Holds encZ W gb 0 seats.toArray:=holds_of_block_i hgb (by simpa using r4);have hgl:gb<W.heap.size:=(Array.getElem?_eq_some_iff.1 hgb).1
  gi_wp2
  refine⟨trivial,(callsIn_wide.2 (Any.slices_Sort_int Tryz.laysSort gb 0 cap seats W hH hgl (by omega))).mono ?_⟩;rintro e w' ⟨rfl,nn,os,rfl⟩
  gi_wp2
  go_ret
  refine⟨_,rfl,hB.grown (grownBy_sorted_i _) hB.size (fun j hj=>by cases hj;exact hbase),?_⟩;have:=ownsRow_sorted_i (ts:=srt seats) (n:=nn) (os:=os) (gx seats) hbase hgb r1 r2 r3;rw[gx];exact this
theorem a11(n:Nat)(a1:Option Addr)(n1 c1:Nat)(w:World):
  CallsIn Fence.wide n Tryz.prog 209 #[.slice a1 n1 c1] w fun e w'=>e= .returned (.func (.func 250) #[] #[.pointer (some ⟨w.heap.size,0,none⟩)])/\
   w'=w.alloc (.cells #[.slice a1 n1 c1] 22):=by
 refine callsIn_of_wp Tryz.func209 rfl trivial ?_ rfl;simp only[Tryz.ntmps209,List.size_toArray,List.length_cons,List.length_nil,Nat.reduceAdd,Nat.reduceSub,Array.replicate_succ,Array.replicate_zero,List.push_toArray,List.append_toArray,List.nil_append,List.cons_append]
 gi_wp2
 go_ret
 exact⟨rfl,rfl⟩
theorem a0s(w:World)(hL:Laid Tryz.prog w)(V:Addr->Prop)(vS:Value)(seats:List Int)(ho:seats.length<=1000000)(hV: ∀a,V a->a.block<w.heap.size)(nS:NumQ V w vS seats):
  CallsIn Fence.wide 6 Tryz.prog 141 #[vS] w fun e W'=>e= .returned (.bool (kv seats))/\Below w.heap.size w W':=by
 obtain⟨aS,cS,rfl,_,_⟩:=aa5 nS;refine callsIn_of_wp Tryz.func141 rfl trivial ?_ rfl;simp only[Tryz.ntmps141,List.size_toArray,List.length_cons,List.length_nil,Nat.reduceAdd,Nat.reduceSub,Array.replicate_succ,Array.replicate_zero,List.push_toArray,List.append_toArray,List.nil_append,List.cons_append]
 gi_wp2
 refine⟨trivial,(a11 _ _ _ _ _).mono ?_⟩;rintro e w' ⟨rfl,rfl⟩
 gi_wp2
 have hB0:Below w.heap.size w (w.alloc (.cells #[.slice aS seats.length cS] 22)):=(Below.refl _ w).alloc (Nat.le_refl _) _;have bB:=Boxed.new w 22 (.slice aS seats.length cS);have hsz:(w.alloc (.cells #[.slice aS seats.length cS] 22)).heap.size=w.heap.size+1:=by simp
 generalize w.alloc (.cells #[.slice aS seats.length cS] 22)=w1 at*;have hK1:KeepQ V w w1:=⟨hB0.size,fun a ha=>hB0.cell (hV a ha)⟩;refine⟨trivial,(a1a w1 (fun a=>V a\/a=⟨w.heap.size,0,none⟩) seats w.heap.size aS cS ho (fun a ha=> ?_) (.inr rfl) bB.cell ((nS.keep hK1).wide fun a h=> .inl h)).mono ?_⟩
 ·rcases ha with h|rfl
  ·have:=hV a h;omega
  ·simp only;omega
 rintro e W ⟨v,rfl,hB,hrow⟩;obtain⟨a4,c4,rfl⟩:=aiz hrow;have D2:=agw (srt seats) (by rw[gx];simp only[big];omega);have hB2:Below w.heap.size w W:=hB0.trans (hB.mono (by omega));have hLW:Laid Tryz.prog W:=xy hL W fun b _ hb=>(hB2.block b (Array.getElem?_eq_some_iff.1 hb).1).trans hb
 have hcall:=qy D2 W hLW (fun a=>w1.heap.size<=a.block) [.slice a4 (srt seats).length c4] rfl (fun i u p hi hp=>by
  match i,hi,hp with
  |0,hi,hp=>simp at hi hp;subst hi hp;exact bb6 hrow
  |i+1,hi,hp=>simp at hi)
 gi_wp2
 refine⟨trivial,(callsIn_wide.2 hcall).mono ?_⟩;rintro e W3 ⟨u,rfl,hg3,E,hR,hpc⟩;have hu:=hR.bool_inv;subst hu;have hB3:Below w.heap.size w W3:=hB0.trans ((hB.mono (by omega)).grown hg3 (by have:=hB.size;omega) (fun k e=>by cases e));have hlen:=gx seats
 cases hv:lm (srt seats)
 ·gi_wp2
  go_ret
  exact⟨by simp[kv,hv],hB3⟩
 ·gi_wp2
  go_ret
  exact⟨by simp[kv,hv,hlen];omega,hB3⟩
theorem asa(seats:List Int)(ho:seats.length<=1000000):Den Tryz.prog 141 [.vs (seats.map i1)] [] (.bool (kv seats)) [] []:=by
 refine xh (enters_of Tryz.func141 (by kernel_rfl) rfl) fun w V vals hL hV hlen hval=> ?_
 match vals,hlen with
 |[v1],_=>
  obtain⟨E1,r1,p1⟩:=hval 0 v1 _ rfl rfl;refine(callsIn_wide.1 (a0s w hL V v1 seats ho hV (RP.mono p1 r1.vs_inv))).mono ?_;rintro e W ⟨rfl,hB⟩;exact⟨_,rfl,hB,.bool _⟩
end Go.Proofs.Am

/- Decisions: what has enough votes; the program's and the document's. -/
namespace Go.Proofs.Am
open Go Go.RowKit
open Go.Proofs
theorem asm(c:Cs)(s:List Int)(hs:s.length<=1000000):Den Tryz.prog 109 [.agg (cs c),.vs (s.map i1)] [] (.int .i64 (ckS c s)) [] []:=by
 refine aa Tryz.func109 rfl Tryz.call109 Tryz.ntmps109 Tryz.results109 (by simp) (by kernel_rfl) [] (exts:=[]) rfl rfl ?_;have c1:=ans c;have c2:=asa s hs;rw[ki]at c1 ⊢;rw[q8];simp only[go_sem];refine call c1 [] ?_
 cases a1:l6 c
 ·simp only[go_sem]
 ·simp only[go_sem];refine call c2 [] ?_
  cases a2:kv s
  ·simp only[go_sem]
  ·simp only[go_sem]
def axk(m:Nat)(N:List Cn)(i:Nat):List Ct:=((N.take i).filter fun n=>azb n.ks.length m).map Cn.x
theorem a1r{m:Nat}{N:List Cn}{i:Nat}(h:i<N.length):axk m N (i+1)=axk m N i++if azb (el N i).ks.length m=true then [(el N i).x]else []:=by
 simp only[axk,cu h,List.filter_append,List.map_append,List.filter_cons,List.filter_nil];split<;>rfl
theorem a5u(m:Nat)(N:List Cn)(i:Nat):(axk m N i).length<=N.length:=by
 simp only[axk,List.length_map];refine Nat.le_trans (List.length_filter_le _ _) ?_;rw[List.length_take];omega
theorem a4w{seats:List Int}{v:List Vt}:axk seats.length (cnR seats v) (cnR seats v).length=ams seats v:=by simp only[axk,List.take_length,ams]
theorem be5(l:List Stm)(c:Cs)(seats:List Int)(hl:l.length<=900)(hs: ∀s∈l,adv s)(hb:seats.length<=1000000)(hq: ∀y∈bj l c,plX y.x):
  Den Tryz.prog 78 [.vs (l.map sm),.agg (cs c),.vs (seats.map i1)] [] (.tup [.vs ((if ckS c seats=0 then ams seats (bj l c)else []).map ct),.int .i64 (ckS c seats)]) [] []:=by
 refine aa Tryz.func78 rfl Tryz.call78 Tryz.ntmps78 Tryz.results78 (by simp) (by kernel_rfl) [] (exts:=[]) rfl rfl ?_;have hbs:big seats.length:=by simp only[big];omega
 have c1:=asm c seats hb;have c2:=ack l c (by omega) hs;have lV:=agm l c;have xV: ∀y∈bj l c,okX y.x:=fun y hy=>(ra (l:=l) (c:=c) y hy).okX (hq y hy);rw[ki]at c1 c2;generalize hk:ckS c seats=k at*;generalize bj l c=V at*;have c3:=bhr V seats (by omega) hbs xV;rw[a8d xV]at c3;have hok:=a1y seats (fun y hy=>(xV y hy).1) V.length (Nat.le_refl _);have hN:cnI seats V V.length=cnR seats V:=rfl;rw[hN]at hok;have hall:=a4w (seats:=seats) (v:=V);have hks:k=0->∀n∈cnR seats V,n.ks.length<=seats.length:=fun _ n hn=>bgs hn;generalize ams seats V=A at*;generalize cnR seats V=N at*;clear hN;simp only[go_sem,ki];refine call c1 [] ?_;by_cases hz:k=0
 rotate_left
 ·simp only[go_sem,hz]
 ·subst hz;simp only[go_sem];refine call c2 [] ?_;simp only[go_sem];refine call c3 [] ?_;simp only[go_sem];refine da 9 110 126 2 false ?_ ?_ ?_ (by omega)
  ·refine loop Tryz.mixed 0 (fun i:Nat=>[(2,.vs (seats.map i1)),(9,.os 110 (axk seats.length N i).length),(22,.vs (N.map cn3)),(23,.int .i64 N.length),(24,.int .i64 i)]) (fun i=>[(110,.arr 126 2 false ((axk seats.length N i).map ct))]) (fun i=>i<=N.length) (fun i=>N.length - i) (by kernel_rfl) (Nat.zero_le _) ?_ ?_
   ·simp only[go_sem];simp[axk]
   ·intro i hi;by_cases hlt:i<N.length
    ·have h1:(i:Int)<(N.length:Int):=by omega
     have hsu:=a1r (m:=seats.length) hlt;have hln:=a5u seats.length N i;have hkn:=hks rfl _ (cj hlt);have ce:=akx (el N i).ks.length seats.length (by omega) hb;generalize axk seats.length N i=o at*;simp only[go_sem,h1,hlt];refine call ce [] ?_
     cases he:azb (el N i).ks.length seats.length
     ·rw[he,if_neg (by simp),List.append_nil]at hsu;simp only[go_sem];refine⟨i+1,⟨by omega,by omega⟩,?_⟩;rw[hsu];exact⟨⟨rfl,by rw[ae]<;>omega⟩,rfl⟩
     ·rw[he,if_pos rfl]at hsu;simp only[go_sem];refine⟨by omega,i+1,⟨by omega,by omega⟩,?_⟩;rw[hsu];exact⟨⟨by simp,by rw[ae]<;>omega⟩,by simp[ct]⟩
    ·have h1: ¬(i:Int)<(N.length:Int):=by omega
     have:i=N.length:=by omega
     subst this;simp only[go_sem,h1,hall]
  ·simp only[go_sem]
  ·simp only[go_sem]
def auj(A:List Ct):Ct:=if A.length=1 then el A 0 else noC
theorem bc1(l:List Stm)(c:Cs)(seats:List Int)(hl:l.length<=900)(hs: ∀s∈l,adv s)(hb:seats.length<=1000000)(A:List Ct)(hA:A=if ckS c seats=0 then ams seats (bj l c)else [])(hA2:big A.length)(hq: ∀y∈bj l c,plX y.x):
  Den Tryz.prog 191 [.vs (l.map sm),.agg (cs c),.vs (seats.map i1)] [] (.tup [.agg (ct (auj A)),.bool (decide (A.length=1)),.int .i64 (ckS c seats)]) [] []:=by
 refine aa Tryz.func191 rfl Tryz.call191 Tryz.ntmps191 Tryz.results191 (by simp) (by kernel_rfl) [] (exts:=[]) rfl rfl ?_;have c1:=be5 l c seats hl hs hb hq;rw[<-hA,ki]at c1;have hne:ckS c seats≠0->A=[]:=fun h=>by rw[hA,if_neg h]
 generalize ckS c seats=k at*;clear hA;rw[ki];simp only[go_sem];refine call c1 [] ?_;by_cases hz:k=0
 rotate_left
 ·have:=hne hz;subst this;simp only[go_sem,hz,auj,noC,List.length_nil]
 ·subst hz;by_cases h1:A.length=1
  ·obtain⟨x,rfl⟩:=List.length_eq_one_iff.1 h1;simp only[go_sem,auj,List.length_singleton,List.map_cons,List.map_nil];exact⟨rfl,rfl⟩
  ·have h2: ¬(A.length:Int)=1:=by omega
   simp only[go_sem,h1,h2,auj,noC]
def ce(c:Cs)(l:List Stm):List PV:=[.int .i64 c.ep,.int .i64 c.kd,.int .i64 c.su,.int .i64 c.ro,.vs (l.map sm)]
def zx(l:List Stm)(i:Nat):List PV:=if i=0 then [.nils,.nils]else ct (ej (el l 0)).1.x
theorem bkp(l:List Stm):zx l 0=[.nils,.nils]:=rfl
end Go.Proofs.Am
