/- TX1. -/
import Derived.Test.YtloaichcpoboeaaGreatDoorAmZ
import Derived.Test.YtloaichcpoboeaaGreatDoorShP
import Derived.Shelf.Strings.Builder1
import Derived.WalkKit
import Derived.BigCall
import Derived.Test.YtloaichcpoboeaaGreatDoorCThree
import Derived.Deep.LoopGhost
import Derived.Deep.RegionHeld3
import Derived.WalkSpells
import Derived.StillTactics
import Derived.Laws.Pointers
import Derived.Lib.ItoaLen
set_option maxHeartbeats 4000000
set_option maxRecDepth 100000
set_option linter.unusedSimpArgs false
set_option linter.unusedVariables false
namespace Go.Proofs.Am
open Go Go.RowKit Go.Sort
open Go.Proofs
theorem aqd:(Tryz.prog.info? 269).map (·.size)=some 2:=by kernel_rfl
theorem a3k:liesAt Tryz.prog Tryz.prog.depth 269 (2/Tryz.prog.cellsOf 269) 0 269 1=true:=by kernel_rfl
theorem bbk(b:Nat)(w:World)(h0:w.cell? ⟨b,0,none⟩=some (.pointer (some ⟨b,0,none⟩))):
  Calls Tryz.prog 251 #[.pointer (some ⟨b,0,none⟩)] w fun e w'=>e= .returned (.tuple #[])/\w'=w:=by
 obtain⟨j,hj,_⟩:=Option.map_eq_some_iff.1 aqd
 go_enter Tryz.func251,Tryz.ntmps251
 go_wp2
 rw[Lib.run_neq_ptr_same w _ Tryz.underlying267 hj]
 go_wp2
 go_end0
 exact⟨rfl,rfl⟩
theorem a4r(b:Nat)(w:World)(h0:w.cell? ⟨b,0,none⟩=some (.pointer none))(hsh:w.shape? b=some (269,2))(hfz:w.frozen? ⟨b,0,none⟩=false):
  Calls Tryz.prog 251 #[.pointer (some ⟨b,0,none⟩)] w fun e w'=>e= .returned (.tuple #[])/\w'=w.setCell ⟨b,0,none⟩ (.pointer (some ⟨b,0,none⟩)):=by
 obtain⟨j,hj,hjs⟩:=Option.map_eq_some_iff.1 aqd
 go_enter Tryz.func251,Tryz.ntmps251
 go_wp2
 rw[Lib.run_to_unsafe w ⟨b,0,none⟩ Tryz.underlying267 Tryz.underlying346 hj (by rw[hjs];decide) hsh (Nat.zero_lt_succ 1)];simp only[Result.andThen];rw[Oper.upon_value]
 go_wp2
 rw[run_callFunc_extern Tryz.func300 (by kernel_rfl) (by kernel_rfl) (by kernel_rfl) (e:=Extern.AbiNoEscape.same) (by kernel_rfl)];rw[Lib.run_noEscape];simp only[Result.andThen];rw[Oper.upon_value]
 go_wp2
 rw[Lib.run_from_unsafe w ⟨b,0,none⟩ Tryz.underlying346 Tryz.underlying267 hj hsh a3k];simp only[Result.andThen];rw[Oper.upon_value]
 go_wp2
 go_end0
 exact⟨rfl,rfl⟩
def kept(b:Nat)(w w':World):Prop:= ∀(k:Nat) (o:Obj),w.heap[k]? =some o->k≠b->(∀cur fr,o≠ .cells cur 5 fr)->w'.heap[k]? =some o
theorem ue(b off:Nat)(v:Value)(w:World):kept b w (w.setCell ⟨b,off,none⟩ v):=fun k o h hk _=>by
 show((w.setCell ⟨b,off,none⟩ v).heap)[k]? =_;rw[setCell_eq];simp only[mapBlock,Array.getElem?_modify,if_neg (Ne.symm hk)];exact h
theorem bgj(B b:Nat)(bs:List Value)(w:World)(h:Lib.IsBuilder 269 5 B b bs w):
  Calls Tryz.prog 251 #[.pointer (some ⟨b,0,none⟩)] w fun e w'=>e= .returned (.tuple #[])/\(Lib.BuilderAt 269 5 B b (.pointer (some ⟨b,0,none⟩)) bs w'/\Below B w w'/\kept b w w'):=by
 rcases h with h|h
 ·refine(a4r b w h.cell0 h.shape h.frozen0).mono ?_;rintro e w' ⟨rfl,rfl⟩;exact⟨rfl,h.used _,(Below.refl B w).setCell (p:=⟨b,0,none⟩) h.1 _,ue b 0 _ w⟩
 ·refine(bbk b w h.cell0).mono ?_;rintro e w' ⟨rfl,rfl⟩;exact⟨rfl,h,Below.refl B _,fun k o h _ _=>h⟩
theorem blc(B b:Nat)(bs:List Value)(s:ByteArray)(w:World)(h:Lib.IsBuilder 269 5 B b bs w)(hlen:bs.length+s.size<=140737488355328)(hBw:B<=w.heap.size):
  Calls Tryz.prog 210 #[.pointer (some ⟨b,0,none⟩),.string s] w fun e w'=>e= .returned (.tuple #[.int .i64 s.size,.nilIface])/\(Lib.IsBuilder 269 5 B b (bs++Lib.strCells s) w'/\Below B w w'/\kept b w w'):=by
 obtain⟨i0,hi,hz0,hz1,hz2⟩:=info_parts (show(Tryz.prog.info? 5).map (fun i=>(i.zero,i.size,i.bytes))=some (some (.int .u8 0),1,1) by kernel_rfl);have ecc: ∀us w,(callFunc 251 us).run Tryz.prog w= .ok (.enter 251 us) w:=enters_of Tryz.func251 (by kernel_rfl) rfl
 go_enter Tryz.func210,Tryz.ntmps210
 go_wp2_with (go_at_fn 251;refine(bgj B b bs _ h).mono ?_)
 rintro e w1 ⟨rfl,h1,hb1,hk1⟩;have HK1:Aside (kept b w w1):=hk1;clear hk1;obtain⟨hB,v,hbk,hown,hne⟩:=h1;have c0:w1.cell? ⟨b,0,none⟩=some (.pointer (some ⟨b,0,none⟩)):=by rw[Lib.cell_of_heap hbk];rfl
 have c1:w1.cell? ⟨b,1,none⟩=some v:=by rw[Lib.cell_of_heap hbk];rfl
 go_wp2_with (at_builtin;refine Lib.wpList_append_own_string _ rfl _ _ 142 9 rfl B 5 i0 Tryz.underlying142 Tryz.underlying9 hi hz0 hz1 hz2 _ _ _ rfl hown s rfl ?c3 ?c4 ?c5 ?_)
 case c3=>unfold maxLen;omega
 case c4=>omega
 case c5=>have:=hb1.size;omega
 intro v' w2 hown' hgrow _
 have hlt:b<w1.heap.size:=by
  rcases Nat.lt_or_ge b w1.heap.size with h'|h'
  ·exact h'
  ·simp[Array.getElem?_eq_none h']at hbk
 have hb2:w2.heap[b]? =some (.cells #[.pointer (some ⟨b,0,none⟩),v] 269 (0,0)):=by
  rw[hgrow.block b hlt (fun e=>hne e.symm)];exact hbk
 have d0:w2.cell? ⟨b,0,none⟩=some (.pointer (some ⟨b,0,none⟩)):=by rw[Lib.cell_of_heap hb2];rfl
 have d1:w2.cell? ⟨b,1,none⟩=some v:=by rw[Lib.cell_of_heap hb2];rfl
 have f1:w2.frozen? ⟨b,1,none⟩=false:=Lib.frozen_of_heap hb2 1
 obtain⟨ao,n',cap,rfl⟩: ∃ao n' cap,v'= .slice ao n' cap:=by
  rcases hown'.2 with ⟨hv,_⟩|⟨g,cap,cur,hv,_⟩
  ·exact⟨_,_,_,hv⟩
  ·exact⟨_,_,_,hv⟩
 have HK2:Aside (kept b w1 w2):=fun k o h hk hty=>by
  rw[hgrow.block k (Array.getElem?_eq_some_iff.1 h).1 (fun e=> ?_)]
  ·exact h
  ·rcases hown.2 with ⟨hv,_⟩|⟨g,cap,cur,hv,_,q2,_⟩
   ·rw[hv]at e;cases e
   ·rw[hv]at e;simp only[Value.ownBlock,Option.some.injEq]at e;subst e;rw[q2]at h
    cases h
    exact hty _ _ rfl
 go_wp2
 go_ret2
 refine⟨rfl,Or.inr ?_,?_,fun k o h hk hty=>ue b 1 _ w2 k o (HK2.out k o (HK1.out k o h hk hty) hk hty) hk hty⟩
 ·exact Lib.BuilderAt.put (T:=269) (e:=5) hB hb2 (bs':=bs++Lib.strCells s) (by simpa [Lib.strCells_length] using hown') (by decide)
 ·exact(hb1.grown hgrow (by have:=hb1.size;omega) (fun k hk=>(hown.lt k hk).1)).setCell (p:=⟨b,1,none⟩) hB _
def inR(n:Int):Prop:= -9223372036854775808<=n/\n<=9223372036854775807
instance (n:Int):Decidable (inR n):=by unfold inR;exact inferInstance
def nB(n:Int):List UInt8:=Lib.itoa n++[44]
def plX(x:Ct):Prop:=x.pi=[]/\∀n∈x.li,n=0\/n=1
def em(x:Ct):List UInt8:=x.li.flatMap nB
def okO(x:Ct):Prop:=ajv x/\(∀n∈x.li,inR n)/\∀p∈x.pi,inR p.au/\inR p.he
def okX(x:Ct):Prop:=ajv x/\(∀n∈x.li,inR n)/\plX x
theorem okO.okX{x:Ct}(h:okO x)(hq:plX x):Am.okX x:=⟨h.1,h.2.1,hq⟩
theorem anc{n:Int}(h:inR n):(Lib.itoa n).length<=21:=Lib.itoa_length_le n h.1 h.2
theorem bf1{n:Int}(h:inR n):(nB n).length<=22:=by
 have:=anc h;simp[nB];omega
theorem bfs(l:List Int)(h: ∀n∈l,inR n):(l.flatMap nB).length<=22*l.length:=by
 induction l with
 |nil=>simp
 |cons n l ih=>
  have a1:=bf1 (h n (by simp));have a2:=ih fun m hm=>h m (by simp[hm]);simp only[List.flatMap_cons,List.length_append,List.length_cons];omega
theorem ax4{T e:TypeId}{B b:Nat}{bs:List Value}{W W':World}(h:Lib.IsBuilder T e B b bs W)(hb:Below W.heap.size W W'):Lib.IsBuilder T e B b bs W':=by
 have go: ∀p,Lib.BuilderAt T e B b p bs W->Lib.BuilderAt T e B b p bs W':=by
  rintro p ⟨h1,v,h2,h3,h4⟩;refine⟨h1,v,(hb.block _ ?_).trans h2,⟨h3.1,?_⟩,h4⟩
  ·exact(Array.getElem?_eq_some_iff.1 h2).1
  ·rcases h3.2 with h5|⟨g,cap,cur,rfl,q1,q2,q3⟩
   ·exact .inl h5
   ·exact .inr ⟨g,cap,cur,rfl,q1,(hb.block _ (Array.getElem?_eq_some_iff.1 q2).1).trans q2,q3⟩
 rcases h with h|h
 ·exact .inl (go _ h)
 ·exact .inr (go _ h)
structure TJ(w:World)(acc:List UInt8)(W:World):Prop where
 bld:Lib.IsBuilder 269 5 w.heap.size w.heap.size (Lib.byteCells acc) W
 bel:Below w.heap.size w W
theorem TJ.laid{w W:World}{acc:List UInt8}(h:TJ w acc W)(hL:Laid Tryz.prog w):Laid Tryz.prog W:=
 xy hL W fun b _ hb=>(h.bel.block b (Array.getElem?_eq_some_iff.1 hb).1).trans hb
theorem TJ.step{w W W':World}{acc:List UInt8}(h:TJ w acc W)(hb:Below W.heap.size W W'):TJ w acc W':=
 ⟨ax4 h.bld hb,⟨hb.os.trans h.bel.os,hb.tape.trans h.bel.tape,hb.output.trans h.bel.output,Nat.le_trans h.bel.size hb.size,fun k hk=>(hb.block k (Nat.lt_of_lt_of_le hk h.bel.size)).trans (h.bel.block k hk)⟩⟩
theorem a2j:Lib.itoa 0=[48]/\Lib.itoa 1=[49]:=by decide+kernel
theorem axf(n:Int)(hn:n=0\/n=1):Den Tryz.prog 330 [.int .i64 n] [] (.str (Lib.itoa n)) [] []:=by
 rcases hn with rfl|rfl
 ·refine aa Tryz.func330 rfl Tryz.call330 Tryz.ntmps330 Tryz.results330 (by simp) (by kernel_rfl) [] (exts:=[]) rfl rfl ?_;rw[a2j.1];simp only[go_sem];exact⟨by decide+kernel,by decide+kernel⟩
 ·refine aa Tryz.func330 rfl Tryz.call330 Tryz.ntmps330 Tryz.results330 (by simp) (by kernel_rfl) [] (exts:=[]) rfl rfl ?_;rw[a2j.2];simp only[go_sem];exact⟨by decide+kernel,by decide+kernel⟩
theorem bb2(n:Int)(hn:n=0\/n=1):Den Tryz.prog 301 [.int .i64 n,.int .i64 10] [] (.str (Lib.itoa n)) [] []:=by
 refine aa Tryz.func301 rfl Tryz.call301 Tryz.ntmps301 Tryz.results301 (by simp) (by kernel_rfl) [] (exts:=[]) rfl rfl ?_;have h1:0<=n:=by omega
 have h2:n<100:=by omega
 simp only[go_sem,h1,h2];refine call (axf n hn) [] ?_;simp only[go_sem]
theorem awr(n:Int)(hn:n=0\/n=1):Den Tryz.prog 252 [.int .i64 n] [] (.str (Lib.itoa n)) [] []:=by
 refine aa Tryz.func252 rfl Tryz.call252 Tryz.ntmps252 Tryz.results252 (by simp) (by kernel_rfl) [] (exts:=[]) rfl rfl ?_;simp only[go_sem];refine call (bb2 n hn) [] ?_;simp only[go_sem]
theorem a3j(n:Int)(hn:n=0\/n=1):Den Tryz.prog 211 [.int .i64 n] [] (.str (Lib.itoa n)) [] []:=by
 refine aa Tryz.func211 rfl Tryz.call211 Tryz.ntmps211 Tryz.results211 (by simp) (by kernel_rfl) [] (exts:=[]) rfl rfl ?_;simp only[go_sem];refine call (awr n hn) [] ?_;simp only[go_sem]
theorem bj0(n:Int)(hn:n=0\/n=1)(w W:World)(acc:List UInt8)(h:TJ w acc W):
  Calls Tryz.prog 211 #[.int .i64 n] W fun e W'=>e= .returned (.string ⟨(Lib.itoa n).toArray⟩)/\TJ w acc W'/\Below W.heap.size W W':=by
 refine(qy (a3j n hn) W ⟨trivial⟩ (fun _=>True) [.int .i64 n] rfl fun i v u hi hu=> ?_).mono fun e W'=> ?_
 ·match i,hi,hu with
  |0,hi,hu=>simp only[List.getElem?_cons_zero,Option.some.injEq]at hi hu;subst hi hu;exact .int _ _
  |i+1,hi,hu=>simp at hi
 ·rintro⟨v,rfl,hg,E,hR,_⟩;have hb:Below W.heap.size W W':=(Below.refl _ W).grown hg (Nat.le_refl _) fun k hk=>by cases hk
  rw[hR.str_inv];exact⟨rfl,h.step hb,hb⟩
theorem bjx(s:ByteArray)(w W:World)(acc:List UInt8)(h:TJ w acc W)(hl:acc.length+s.size<=140737488355328):
  Calls Tryz.prog 210 #[.pointer (some ⟨w.heap.size,0,none⟩),.string s] W fun e W'=>e= .returned (.tuple #[.int .i64 s.size,.nilIface])/\TJ w (acc++s.data.toList) W'/\kept w.heap.size W W':=by
 refine(blc w.heap.size w.heap.size _ s W h.bld (by rw[Lib.byteCells_length];exact hl) h.bel.size).mono ?_;rintro e W' ⟨rfl,h1,h2,h3⟩;exact⟨rfl,⟨by rw[Lib.byteCells_append];exact h1,h.bel.trans h2⟩,h3⟩
theorem bcl(w:World)(o:Obj):w.heap.size+1=(w.alloc o).heap.size:=by simp
theorem bct(w:World)(u v:Value)(t:TypeId):(w.alloc (.cells #[u,v] t)).cell? ⟨w.heap.size,1,none⟩=some v:=by
 have:(w.alloc (.cells #[u,v] t)).heap[w.heap.size]? =some (.cells #[u,v] t (0,0)):=by
  show(w.heap.push (.cells #[u,v] t))[w.heap.size]? =_;rw[Array.getElem?_push_size]
 rw[Lib.cell_of_heap this];rfl
theorem ajq{α:Type}(f:α->List UInt8)(l:List α)(i:Nat):((l.take i).flatMap f).length<=(l.flatMap f).length:=by
 conv=>rhs;rw[<-List.take_append_drop i l,List.flatMap_append,List.length_append]
 omega
theorem a6f(l:List Pn):l.length<=(l.flatMap pnB).length:=by
 induction l with
 |nil=>simp
 |cons p l ih=>
  simp only[List.flatMap_cons,List.length_append,List.length_cons,pnB,az];omega
theorem asg(x:Ct)(hx:okX x)(w:World)(a1 a2:Option Addr)(c1 c2:Nat)
  (hli:0<x.li.length->∃b o,a1=some ⟨b,o,none⟩/\∀i,i<x.li.length->w.cell? ⟨b,o+i,none⟩=some (.int .i64 (el x.li i))):
  Calls Tryz.prog 142 #[.agg #[.slice a1 x.li.length c1,.slice a2 x.pi.length c2]] w fun e w'=>e= .returned (.string ⟨(em x).toArray⟩)/\Below w.heap.size w w':=by
 have HX:Aside (okX x):=hx;have HLi:Aside _:=hli;have HQ:Aside (plX x):=hx.2.2;clear hx hli;obtain⟨n1,e1⟩: ∃n,n=x.li.length:=⟨_,rfl⟩;obtain⟨n2,e2⟩: ∃n,n=x.pi.length:=⟨_,rfl⟩;rw[<-e1,<-e2];have E12:Aside (n1=x.li.length/\n2=x.pi.length):=⟨e1,e2⟩;have hb1:n1<=1000000:=by rw[e1];exact HX.out.1.1
 have hb2:n2<=100000000:=by rw[e2];exact Nat.le_trans (a6f x.pi) HX.out.1.2
 clear e1 e2
 go_enter Tryz.func142,Tryz.ntmps142
 go_wp2
 have s1:w.heap.size+1=(w.alloc (.cells #[.slice a1 n1 c1,.slice a2 n2 c2] 126)).heap.size:=bcl w _;have d0:(w.alloc (.cells #[.slice a1 n1 c1,.slice a2 n2 c2] 126)).cell? ⟨w.heap.size,1,none⟩=some (.slice a2 n2 c2):=bct w _ _ _;have bw:Below w.heap.size w (w.alloc (.cells #[.slice a1 n1 c1,.slice a2 n2 c2] 126)):=(Below.refl _ w).alloc (Nat.le_refl _) _;rw[s1];generalize w.alloc (.cells #[.slice a1 n1 c1,.slice a2 n2 c2] 126)=w1 at s1 d0 bw ⊢;have T0:Aside (TJ w1 [] (w1.alloc (.cells #[.pointer none,.slice none 0 0] 269))):=⟨Lib.fresh_isBuilder _ _ w1,(Below.refl _ w1).alloc (Nat.le_refl _) _⟩;have KW:Aside (w.heap.size+1=w1.heap.size/\w1.cell? ⟨w.heap.size,1,none⟩=some (.slice a2 n2 c2)/\Below w.heap.size w w1):=⟨s1,d0,bw⟩;clear s1 d0 bw;generalize w1.alloc (.cells #[.pointer none,.slice none 0 0] 269)=W0 at T0 ⊢
 go_loopg [11] n1 (fun g v wr=> ∃i:Nat,v= .int .i64 i/\i<=n1/\n1<=i+g/\Aside (TJ w1 ((x.li.take i).flatMap nB) wr))
 case atStart=>exact⟨0,rfl,Nat.zero_le _,by omega,T0.out⟩
 case round=>
  clear T0;obtain⟨i,rfl,hi,hg,T⟩:=hrel;by_cases hlt:i<n1
  ·have hltz:(i:Int)<(n1:Int):=by omega
   obtain⟨b,o,rfl,hc⟩:=HLi.out (by rw[<-E12.out.1];omega)
   have hci:wr.cell? ⟨b,o+i,none⟩=some (.int .i64 (el x.li i)):=by
    have h1:=hc i (by rw[<-E12.out.1];exact hlt);have h2:=T.out.bel.cell (p:=⟨b,o+i,none⟩) (by have:=block_lt_of_cell h1;have:=KW.out.1;simp only at*;omega);rw[h2,KW.out.2.2.cell (p:=⟨b,o+i,none⟩) (block_lt_of_cell h1)];exact h1
   clear hc;have hin:inR (el x.li i):=HX.out.2.1 _ (by have:=E12.out.1;simp only[el,aw,a8 (show i<x.li.length by omega),Option.getD_some];exact List.getElem_mem _);have hm: ¬(9223372036854775807<(Lib.itoa (el x.li i)).length+1):=by have:=anc hin;omega
   have HIN:Aside (inR (el x.li i)):=hin;have HIM:Aside (el x.li i=0\/el x.li i=1):=HQ.out.2 _ (by have:=E12.out.1;simp only[el,aw,a8 (show i<x.li.length by omega),Option.getD_some];exact List.getElem_mem _);clear hin
   go_wp2_with (go_at_call 211;refine(bj0 _ HIM.out w1 _ _ T.out).mono ?_)
   rintro e W2 ⟨rfl,T2,_⟩;clear T;have T2':Aside (TJ w1 (List.flatMap nB (List.take i x.li)) W2):=T2;clear T2
   go_wp2_with (go_at_call 210;refine(bjx _ w1 _ _ T2'.out ?hw).mono ?_)
   case hw=>
    have a1:=bfs x.li HX.out.2.1;have a2:=HX.out.1.1;have a3:=anc HIN.out;have a4:=ajq nB x.li i;have a5:(({data:=(Lib.itoa (el x.li i)).toArray}:ByteArray)++{data:= #[44]}).size=(Lib.itoa (el x.li i)).length+1:=by simp[ByteArray.size_append,ByteArray.size]
    omega
   rintro e W3 ⟨rfl,T3,_⟩;have T3':Aside (TJ w1 _ W3):=T3;clear T3
   go_wp2
   go_roundg (n1 - (i+1))
   case measure=>omega
   case rel=>
    refine⟨i+1,by go_num,by omega,by omega,?_⟩;have a1:i<x.li.length:=by rw[<-E12.out.1];exact hlt
    have a2:(x.li.take (i+1)).flatMap nB=(x.li.take i).flatMap nB++(({data:=(Lib.itoa (el x.li i)).toArray}:ByteArray)++{data:= #[44]}).data.toList:=by
     rw[cu a1,List.flatMap_append];simp[nB]
    show TJ w1 _ _;rw[a2];exact T3'.out
  ·have hin1:i=n1:=by omega
   subst hin1
   have T1:Aside (TJ w1 (x.li.flatMap nB) wr):=by
    have:=T.out;rw[E12.out.1,List.take_length]at this;exact this
   clear T hg hi HLi;have hltz: ¬((i:Int)<(i:Int)):=by omega
   have hc1:wr.cell? ⟨w.heap.size,1,none⟩=some (.slice a2 n2 c2):=by
    rw[T1.out.bel.cell (p:=⟨w.heap.size,1,none⟩) (by have:=KW.out.1;simp only;omega)];exact KW.out.2.1
   go_wp2
   clear hc1
   go_loopg [23] n2 (fun g v wr=> ∃j:Nat,v= .int .i64 j/\j<=n2/\n2<=j+g/\Aside (TJ w1 (em x) wr))
   case atStart=>exact⟨0,rfl,Nat.zero_le _,by omega,T1.out⟩
   case round=>
    clear T1;obtain⟨j,rfl,hj,hg,T⟩:=hrel;have hj0:n2=0:=by have h1:=E12.out.2;have h2:=HQ.out.1;rw[h2]at h1;exact h1
    by_cases hlt:j<n2
    ·omega
    ·have hjn:j=n2:=by omega
     subst hjn;have T1:Aside (TJ w1 (em x) wr):=T;clear T hg hj;have hltz: ¬((j:Int)<(j:Int)):=by omega
     go_wp2_with (go_at_call 213;refine(Any.Builder_String_any Tryz.laysBStr Tryz.laysBStrX w1.heap.size w1.heap.size (em x) _ T1.out.bld T1.out.bel.size).mono ?_)
     rintro e W ⟨rfl⟩ hb;have HB:Aside (Below w1.heap.size wr W):=hb;clear hb
     go_wp2
     go_ret
     refine⟨rfl,?_⟩;have hb:=HB.out;have h1:=KW.out.2.2;have h2:=T1.out.bel;have h3:=KW.out.1;exact⟨hb.os.trans (h2.os.trans h1.os),hb.tape.trans (h2.tape.trans h1.tape),hb.output.trans (h2.output.trans h1.output),Nat.le_trans h1.size (Nat.le_trans h2.size hb.size),fun k hk=>(hb.block k (by omega)).trans ((h2.block k (by omega)).trans (h1.block k hk))⟩
theorem a74(b o n:Nat):(⟨b,o,none⟩:Addr).add n=⟨b,o+n,none⟩:=by
 unfold Addr.add;split
 ·rename_i h;rw[h];rfl
 ·rfl
theorem a0n{w:World}{a:Addr}{z:Value}(h:w.cell? a=some z): ∃b o,a=⟨b,o,none⟩:=by
 obtain⟨b,o,v⟩:=a
 cases v with
 |none=>exact⟨b,o,rfl⟩
 |some v=>
  simp only[World.cell?]at h;split at h<;>simp at h
theorem an3(x:Ct)(hx:okX x):Den Tryz.prog 142 [.agg (ct x)] [] (.str (em x)) [] []:=by
 refine xh (enters_of Tryz.func142 (by kernel_rfl) rfl) fun w V vals hL hV hlen hval=> ?_
 obtain⟨v,rfl⟩: ∃v,vals=[v]:=by
  match vals,hlen with
  |[v],_=>exact⟨v,rfl⟩
 obtain⟨E,hr,hE⟩:=hval 0 v (.agg (ct x)) rfl rfl;obtain⟨vs,rfl,hs,hc⟩:=hr.agg_inv;have hs2:vs.size=2:=hs;have r1:=(hc 0 (.vs (x.li.map i1)) rfl).vs_inv;have r2:=(hc 1 (.vs (x.pi.map pn)) rfl).vs_inv;obtain⟨a1,c1,U1,e1,_,g1,k1⟩:=aoa (sz:=1) r1 (fun y hy=>by obtain⟨n,_,rfl⟩:=List.mem_map.1 hy;rfl);obtain⟨a2,c2,U2,e2,_,g2,k2⟩:=aoa (sz:=3) r2 (fun y hy=>by obtain⟨n,_,rfl⟩:=List.mem_map.1 hy;rfl);rw[List.length_map]at e1 e2 g1 g2
 have hv:vs= #[.slice a1 x.li.length c1,.slice a2 x.pi.length c2]:=by
  apply Array.ext (by simpa using hs2);intro i h1 h2
  match i with
  |0=>rw[<-e1];simp[Array.getD,hs2]
  |1=>rw[<-e2];simp[Array.getD,hs2]
  |i+2=>omega
 subst hv;refine(asg x hx w a1 a2 c1 c2 (fun h0=> ?_)).mono ?_
 ·obtain⟨ad,rfl,hp⟩:=g1 h0
  have f: ∀i,i<x.li.length->w.cell? (ad.add (i*1+0))=some (.int .i64 (el x.li i)):=fun i hi=>by
   have q:=k1 i (i1 (el x.li i)) 0 (.int .i64 (el x.li i)) (by rw[List.getElem?_map,a8 hi];simp[el,aw,a8 hi]) rfl;have q2:=(hE _ _ (hp i (i1 (el x.li i)) 0 (.int .i64 (el x.li i)) (by rw[List.getElem?_map,a8 hi];simp[el,aw,a8 hi]) rfl)).1;generalize U1 i 0=u at q q2
   cases q
   exact q2
  obtain⟨b,o,hb⟩:=a0n (f 0 h0);refine⟨b,o,by simpa [Addr.add] using hb,fun i hi=> ?_⟩;have h1:=f i hi;have hb':ad=⟨b,o,none⟩:=by simpa [Addr.add] using hb
  rw[hb',a74]at h1;simpa using h1
 ·rintro e W' ⟨rfl,hB⟩;exact⟨_,rfl,hB,.str _⟩
end Go.Proofs.Am
