/- TX1. -/
import Derived.Test.YthidogjdclkoeaaGreatDoorAmZ
import Derived.Test.YthidogjdclkoeaaGreatDoorShP
import Derived.Shelf.Strings.Builder1
import Derived.Shelf.Strconv.Quote
import Derived.Shelf.Strconv.Itoa3
import Derived.WalkKit
import Derived.BigCall
import Derived.Test.YthidogjdclkoeaaGreatDoorCThree
import Derived.Deep.LoopGhost
import Derived.Deep.RegionHeld3
import Derived.WalkSpells
import Derived.StillTactics
import Derived.Laws.Pointers
import Derived.Lib.ItoaLen
set_option maxHeartbeats 4000000
set_option maxRecDepth 100000
set_option linter.unusedSimpArgs false
set_option linter.unusedVariables false
namespace Go.Proofs.Am
open Go Go.RowKit Go.Sort
open Go.Proofs
theorem ajf:(Tryz.prog.info? 190).map (·.size)=some 2:=by kernel_rfl
theorem ayu:liesAt Tryz.prog Tryz.prog.depth 190 (2/Tryz.prog.cellsOf 190) 0 190 1=true:=by kernel_rfl
theorem a26(b:Nat)(w:World)(h0:w.cell? ⟨b,0,none⟩=some (.pointer (some ⟨b,0,none⟩))):
  Calls Tryz.prog 167 #[.pointer (some ⟨b,0,none⟩)] w fun e w'=>e= .returned (.tuple #[])/\w'=w:=by
 obtain⟨j,hj,_⟩:=Option.map_eq_some_iff.1 ajf
 go_enter Tryz.func167,Tryz.ntmps167
 go_wp2
 rw[Lib.run_neq_ptr_same w _ Tryz.underlying188 hj]
 go_wp2
 go_end0
 exact⟨rfl,rfl⟩
theorem ay5(b:Nat)(w:World)(h0:w.cell? ⟨b,0,none⟩=some (.pointer none))(hsh:w.shape? b=some (190,2))(hfz:w.frozen? ⟨b,0,none⟩=false):
  Calls Tryz.prog 167 #[.pointer (some ⟨b,0,none⟩)] w fun e w'=>e= .returned (.tuple #[])/\w'=w.setCell ⟨b,0,none⟩ (.pointer (some ⟨b,0,none⟩)):=by
 obtain⟨j,hj,hjs⟩:=Option.map_eq_some_iff.1 ajf
 go_enter Tryz.func167,Tryz.ntmps167
 go_wp2
 rw[Lib.run_to_unsafe w ⟨b,0,none⟩ Tryz.underlying188 Tryz.underlying222 hj (by rw[hjs];decide) hsh (Nat.zero_lt_succ 1)];simp only[Result.andThen];rw[Oper.upon_value]
 go_wp2
 rw[run_callFunc_extern Tryz.func201 (by kernel_rfl) (by kernel_rfl) (by kernel_rfl) (e:=Extern.AbiNoEscape.same) (by kernel_rfl)];rw[Lib.run_noEscape];simp only[Result.andThen];rw[Oper.upon_value]
 go_wp2
 rw[Lib.run_from_unsafe w ⟨b,0,none⟩ Tryz.underlying222 Tryz.underlying188 hj hsh ayu];simp only[Result.andThen];rw[Oper.upon_value]
 go_wp2
 go_end0
 exact⟨rfl,rfl⟩
def kept(b:Nat)(w w':World):Prop:= ∀(k:Nat) (o:Obj),w.heap[k]? =some o->k≠b->(∀cur fr,o≠ .cells cur 5 fr)->w'.heap[k]? =some o
theorem tv(b off:Nat)(v:Value)(w:World):kept b w (w.setCell ⟨b,off,none⟩ v):=fun k o h hk _=>by
 show((w.setCell ⟨b,off,none⟩ v).heap)[k]? =_;rw[setCell_eq];simp only[mapBlock,Array.getElem?_modify,if_neg (Ne.symm hk)];exact h
theorem a7m(B b:Nat)(bs:List Value)(w:World)(h:Lib.IsBuilder 190 5 B b bs w):
  Calls Tryz.prog 167 #[.pointer (some ⟨b,0,none⟩)] w fun e w'=>e= .returned (.tuple #[])/\(Lib.BuilderAt 190 5 B b (.pointer (some ⟨b,0,none⟩)) bs w'/\Below B w w'/\kept b w w'):=by
 rcases h with h|h
 ·refine(ay5 b w h.cell0 h.shape h.frozen0).mono ?_;rintro e w' ⟨rfl,rfl⟩;exact⟨rfl,h.used _,(Below.refl B w).setCell (p:=⟨b,0,none⟩) h.1 _,tv b 0 _ w⟩
 ·refine(a26 b w h.cell0).mono ?_;rintro e w' ⟨rfl,rfl⟩;exact⟨rfl,h,Below.refl B _,fun k o h _ _=>h⟩
theorem a9y(B b:Nat)(bs:List Value)(s:ByteArray)(w:World)(h:Lib.IsBuilder 190 5 B b bs w)(hlen:bs.length+s.size<=140737488355328)(hBw:B<=w.heap.size):
  Calls Tryz.prog 154 #[.pointer (some ⟨b,0,none⟩),.string s] w fun e w'=>e= .returned (.tuple #[.int .i64 s.size,.nilIface])/\(Lib.IsBuilder 190 5 B b (bs++Lib.strCells s) w'/\Below B w w'/\kept b w w'):=by
 obtain⟨i0,hi,hz0,hz1,hz2⟩:=info_parts (show(Tryz.prog.info? 5).map (fun i=>(i.zero,i.size,i.bytes))=some (some (.int .u8 0),1,1) by kernel_rfl);have ecc: ∀us w,(callFunc 167 us).run Tryz.prog w= .ok (.enter 167 us) w:=enters_of Tryz.func167 (by kernel_rfl) rfl
 go_enter Tryz.func154,Tryz.ntmps154
 go_wp2_with (go_at_fn 167;refine(a7m B b bs _ h).mono ?_)
 rintro e w1 ⟨rfl,h1,hb1,hk1⟩;have HK1:Aside (kept b w w1):=hk1;clear hk1;obtain⟨hB,v,hbk,hown,hne⟩:=h1;have c0:w1.cell? ⟨b,0,none⟩=some (.pointer (some ⟨b,0,none⟩)):=by rw[Lib.cell_of_heap hbk];rfl
 have c1:w1.cell? ⟨b,1,none⟩=some v:=by rw[Lib.cell_of_heap hbk];rfl
 go_wp2_with (at_builtin;refine Lib.wpList_append_own_string _ rfl _ _ 84 9 rfl B 5 i0 Tryz.underlying84 Tryz.underlying9 hi hz0 hz1 hz2 _ _ _ rfl hown s rfl ?c3 ?c4 ?c5 ?_)
 case c3=>unfold maxLen;omega
 case c4=>omega
 case c5=>have:=hb1.size;omega
 intro v' w2 hown' hgrow _
 have hlt:b<w1.heap.size:=by
  rcases Nat.lt_or_ge b w1.heap.size with h'|h'
  ·exact h'
  ·simp[Array.getElem?_eq_none h']at hbk
 have hb2:w2.heap[b]? =some (.cells #[.pointer (some ⟨b,0,none⟩),v] 190 (0,0)):=by
  rw[hgrow.block b hlt (fun e=>hne e.symm)];exact hbk
 have d0:w2.cell? ⟨b,0,none⟩=some (.pointer (some ⟨b,0,none⟩)):=by rw[Lib.cell_of_heap hb2];rfl
 have d1:w2.cell? ⟨b,1,none⟩=some v:=by rw[Lib.cell_of_heap hb2];rfl
 have f1:w2.frozen? ⟨b,1,none⟩=false:=Lib.frozen_of_heap hb2 1
 obtain⟨ao,n',cap,rfl⟩: ∃ao n' cap,v'= .slice ao n' cap:=by
  rcases hown'.2 with ⟨hv,_⟩|⟨g,cap,cur,hv,_⟩
  ·exact⟨_,_,_,hv⟩
  ·exact⟨_,_,_,hv⟩
 have HK2:Aside (kept b w1 w2):=fun k o h hk hty=>by
  rw[hgrow.block k (Array.getElem?_eq_some_iff.1 h).1 (fun e=> ?_)]
  ·exact h
  ·rcases hown.2 with ⟨hv,_⟩|⟨g,cap,cur,hv,_,q2,_⟩
   ·rw[hv]at e;cases e
   ·rw[hv]at e;simp only[Value.ownBlock,Option.some.injEq]at e;subst e;rw[q2]at h
    cases h
    exact hty _ _ rfl
 go_wp2
 go_ret2
 refine⟨rfl,Or.inr ?_,?_,fun k o h hk hty=>tv b 1 _ w2 k o (HK2.out k o (HK1.out k o h hk hty) hk hty) hk hty⟩
 ·exact Lib.BuilderAt.put (T:=190) (e:=5) hB hb2 (bs':=bs++Lib.strCells s) (by simpa [Lib.strCells_length] using hown') (by decide)
 ·exact(hb1.grown hgrow (by have:=hb1.size;omega) (fun k hk=>(hown.lt k hk).1)).setCell (p:=⟨b,1,none⟩) hB _
def inR(n:Int):Prop:= -9223372036854775808<=n/\n<=9223372036854775807
instance (n:Int):Decidable (inR n):=by unfold inR;exact inferInstance
def qB(s:List UInt8):List UInt8:=(strOfNums (Lib.quoteZ Lib.goPrintTabs ⟨s.toArray⟩)).data.toList
def nB(n:Int):List UInt8:=Lib.itoa n++[44]
def tpB(p:Pn):List UInt8:=59::(Lib.itoa p.au++(44::(Lib.itoa p.he++(44::qB p.di))))
def eb(x:Ct):List UInt8:=x.li.flatMap nB++x.pi.flatMap tpB
def okX(x:Ct):Prop:=pa x/\(∀n∈x.li,inR n)/\∀p∈x.pi,inR p.au/\inR p.he
theorem fm{n:Int}(h:inR n):(Lib.itoa n).length<=21:=Lib.itoa_length_le n h.1 h.2
theorem aqe(s:List UInt8):(qB s).length<=10*s.length+2:=by
 have:=Lib.quoteZ_length_le Lib.goPrintTabs ⟨s.toArray⟩;simp only[qB,strOfNums_data,List.length_map];simpa [ByteArray.size] using this
theorem a44{n:Int}(h:inR n):(nB n).length<=22:=by
 have:=fm h;simp[nB];omega
theorem a3j{p:Pn}(h1:inR p.au)(h2:inR p.he):(tpB p).length<=10*(pnB p).length:=by
 have a1:=fm h1;have a2:=fm h2;have a3:=aqe p.di;simp only[tpB,pnB,List.length_append,List.length_cons,aw,fe];omega
theorem az4(l:List Int)(h: ∀n∈l,inR n):(l.flatMap nB).length<=22*l.length:=by
 induction l with
 |nil=>simp
 |cons n l ih=>
  have a1:=a44 (h n (by simp));have a2:=ih fun m hm=>h m (by simp[hm]);simp only[List.flatMap_cons,List.length_append,List.length_cons];omega
theorem a6b(l:List Pn)(h: ∀p∈l,inR p.au/\inR p.he):(l.flatMap tpB).length<=10*(l.flatMap pnB).length:=by
 induction l with
 |nil=>simp
 |cons p l ih=>
  have a1:=a3j (h p (by simp)).1 (h p (by simp)).2;have a2:=ih fun m hm=>h m (by simp[hm]);simp only[List.flatMap_cons,List.length_append];omega
theorem at6{T e:TypeId}{B b:Nat}{bs:List Value}{W W':World}(h:Lib.IsBuilder T e B b bs W)(hb:Below W.heap.size W W'):Lib.IsBuilder T e B b bs W':=by
 have go: ∀p,Lib.BuilderAt T e B b p bs W->Lib.BuilderAt T e B b p bs W':=by
  rintro p ⟨h1,v,h2,h3,h4⟩;refine⟨h1,v,(hb.block _ ?_).trans h2,⟨h3.1,?_⟩,h4⟩
  ·exact(Array.getElem?_eq_some_iff.1 h2).1
  ·rcases h3.2 with h5|⟨g,cap,cur,rfl,q1,q2,q3⟩
   ·exact .inl h5
   ·exact .inr ⟨g,cap,cur,rfl,q1,(hb.block _ (Array.getElem?_eq_some_iff.1 q2).1).trans q2,q3⟩
 rcases h with h|h
 ·exact .inl (go _ h)
 ·exact .inr (go _ h)
structure TJ(w:World)(acc:List UInt8)(W:World):Prop where
 bld:Lib.IsBuilder 190 5 w.heap.size w.heap.size (Lib.byteCells acc) W
 bel:Below w.heap.size w W
theorem TJ.laid{w W:World}{acc:List UInt8}(h:TJ w acc W)(hL:Laid Tryz.prog w):Laid Tryz.prog W:=
 qr hL W fun b _ hb=>(h.bel.block b (Array.getElem?_eq_some_iff.1 hb).1).trans hb
theorem TJ.step{w W W':World}{acc:List UInt8}(h:TJ w acc W)(hb:Below W.heap.size W W'):TJ w acc W':=
 ⟨at6 h.bld hb,⟨hb.os.trans h.bel.os,hb.tape.trans h.bel.tape,hb.output.trans h.bel.output,Nat.le_trans h.bel.size hb.size,fun k hk=>(hb.block k (Nat.lt_of_lt_of_le hk h.bel.size)).trans (h.bel.block k hk)⟩⟩
theorem a5d(n:Int)(hn:inR n)(w W:World)(acc:List UInt8)(h:TJ w acc W)(hL:Laid Tryz.prog w):
  Calls Tryz.prog 155 #[.int .i64 n] W fun e W'=>e= .returned (.string ⟨(Lib.itoa n).toArray⟩)/\TJ w acc W'/\Below W.heap.size W W':=by
 obtain⟨g,hg⟩:=Option.isSome_iff_exists.1 (show(Tryz.prog.globalNamed "internal/strconv.uint64pow10").isSome=true by kernel_rfl);have htab:Lib.TabIs Tryz.prog W "internal/strconv.uint64pow10" .u64 Lib.pow10Tab:=(h.laid hL).pow g hg;refine(Any.strconv_Itoa Tryz.laysItoa n hn.1 hn.2 W htab).mono ?_;rintro e W' ⟨rfl,k,os,rfl⟩;have hb:Below W.heap.size W (grow (W.drewN k) os):=⟨rfl,rfl,rfl,by simp[grow,World.drewN],fun j hj=>by simp only[grow,World.drewN];rw[Array.getElem?_append_left hj]⟩;exact⟨rfl,h.step hb,hb⟩
theorem a5s(s:List UInt8)(hs:s.length<=100000000)(w W:World)(acc:List UInt8)(h:TJ w acc W)(hL:Laid Tryz.prog w):
  Calls Tryz.prog 156 #[.string ⟨s.toArray⟩] W fun e W'=>e= .returned (.string ⟨(qB s).toArray⟩)/\TJ w acc W'/\Below W.heap.size W W':=by
 have hl:=h.laid hL;have hsz:(⟨s.toArray⟩:ByteArray).size=s.length:=by simp[ByteArray.size]
 refine(Any.strconv_Quote Tryz.laysQuote (by kernel_rfl) Lib.goPrintTabs ⟨s.toArray⟩ W (by rw[hsz];omega) (hl.print _ _ _ _ (by kernel_rfl) (by kernel_rfl) (by kernel_rfl) (by kernel_rfl)) (hl.utf8 _ _ (by kernel_rfl) (by kernel_rfl))).mono ?_;rintro e W' ⟨rfl,hb⟩;exact⟨rfl,h.step hb,hb⟩
theorem a67(s:ByteArray)(w W:World)(acc:List UInt8)(h:TJ w acc W)(hl:acc.length+s.size<=140737488355328):
  Calls Tryz.prog 154 #[.pointer (some ⟨w.heap.size,0,none⟩),.string s] W fun e W'=>e= .returned (.tuple #[.int .i64 s.size,.nilIface])/\TJ w (acc++s.data.toList) W'/\kept w.heap.size W W':=by
 refine(a9y w.heap.size w.heap.size _ s W h.bld (by rw[Lib.byteCells_length];exact hl) h.bel.size).mono ?_;rintro e W' ⟨rfl,h1,h2,h3⟩;exact⟨rfl,⟨by rw[Lib.byteCells_append];exact h1,h.bel.trans h2⟩,h3⟩
theorem a3g(w:World)(o:Obj):w.heap.size+1=(w.alloc o).heap.size:=by simp
theorem a3i(w:World)(u v:Value)(t:TypeId):(w.alloc (.cells #[u,v] t)).cell? ⟨w.heap.size,1,none⟩=some v:=by
 have:(w.alloc (.cells #[u,v] t)).heap[w.heap.size]? =some (.cells #[u,v] t (0,0)):=by
  show(w.heap.push (.cells #[u,v] t))[w.heap.size]? =_;rw[Array.getElem?_push_size]
 rw[Lib.cell_of_heap this];rfl
theorem s7{α:Type}(f:α->List UInt8)(l:List α)(i:Nat):((l.take i).flatMap f).length<=(l.flatMap f).length:=by
 conv=>rhs;rw[<-List.take_append_drop i l,List.flatMap_append,List.length_append]
 omega
theorem ay1(l:List Pn):l.length<=(l.flatMap pnB).length:=by
 induction l with
 |nil=>simp
 |cons p l ih=>
  simp only[List.flatMap_cons,List.length_append,List.length_cons,pnB,aw];omega
theorem aiw{α:Type}(f:α->List UInt8)(l:List α)(p:α)(h:p∈l):(f p).length<=(l.flatMap f).length:=by
 induction l with
 |nil=>simp at h
 |cons q l ih=>
  simp only[List.flatMap_cons,List.length_append];rcases List.mem_cons.1 h with rfl|h
  ·omega
  ·have:=ih h;omega
structure TS(w1:World)(acc:List UInt8)(wb:Nat)(p:Pn)(W:World):Prop where
 tj:TJ w1 acc W
 ob:W.heap[wb]? =some (.cells #[.int .i64 p.au,.int .i64 p.he,.string ⟨p.di.toArray⟩] 93 (0,0))
 ne:wb≠w1.heap.size
theorem TS.c0{w1 W:World}{acc:List UInt8}{wb:Nat}{p:Pn}(h:TS w1 acc wb p W):W.cell? ⟨wb,0,none⟩=some (.int .i64 p.au):=by rw[Lib.cell_of_heap h.ob];rfl
theorem TS.c1{w1 W:World}{acc:List UInt8}{wb:Nat}{p:Pn}(h:TS w1 acc wb p W):W.cell? ⟨wb,1,none⟩=some (.int .i64 p.he):=by rw[Lib.cell_of_heap h.ob];rfl
theorem TS.c2{w1 W:World}{acc:List UInt8}{wb:Nat}{p:Pn}(h:TS w1 acc wb p W):W.cell? ⟨wb,2,none⟩=some (.string ⟨p.di.toArray⟩):=by rw[Lib.cell_of_heap h.ob];rfl
theorem TS.step{w1 W W':World}{acc:List UInt8}{wb:Nat}{p:Pn}(h:TS w1 acc wb p W)(hb:Below W.heap.size W W'):TS w1 acc wb p W':=
 ⟨h.tj.step hb,(hb.block _ (Array.getElem?_eq_some_iff.1 h.ob).1).trans h.ob,h.ne⟩
def TL(w1:World)(wb:Nat)(p:Pn)(W:World):Prop:= ∃acc,TS w1 acc wb p W
theorem a5o(n:Int)(hn:inR n){w1 W:World}{acc:List UInt8}{wb:Nat}{p:Pn}(h:TS w1 acc wb p W)(hL:Laid Tryz.prog w1):
  Calls Tryz.prog 155 #[.int .i64 n] W fun e W'=>e= .returned (.string ⟨(Lib.itoa n).toArray⟩)/\TS w1 acc wb p W':=
 (a5d n hn w1 W acc h.tj hL).mono fun e W' ⟨a,b,c⟩=>⟨a,h.step c⟩
theorem a7h(s:List UInt8)(hs:s.length<=100000000){w1 W:World}{acc:List UInt8}{wb:Nat}{p:Pn}(h:TS w1 acc wb p W)(hL:Laid Tryz.prog w1):
  Calls Tryz.prog 156 #[.string ⟨s.toArray⟩] W fun e W'=>e= .returned (.string ⟨(qB s).toArray⟩)/\TS w1 acc wb p W':=
 (a5s s hs w1 W acc h.tj hL).mono fun e W' ⟨a,b,c⟩=>⟨a,h.step c⟩
theorem a9a(s:ByteArray){w1 W:World}{acc:List UInt8}{wb:Nat}{p:Pn}(h:TS w1 acc wb p W)(hl:acc.length+s.size<=140737488355328):
  Calls Tryz.prog 154 #[.pointer (some ⟨w1.heap.size,0,none⟩),.string s] W fun e W'=>e= .returned (.tuple #[.int .i64 s.size,.nilIface])/\TS w1 (acc++s.data.toList) wb p W':=
 (a67 s w1 W acc h.tj hl).mono fun e W' ⟨a,b,c⟩=>⟨a,b,c _ _ h.ob h.ne (fun cur fr e=>by cases e),h.ne⟩
theorem awk(A B Q:List UInt8):((⟨#[59]⟩:ByteArray)++⟨A.toArray⟩++⟨#[44]⟩++⟨B.toArray⟩++⟨#[44]⟩++⟨Q.toArray⟩).size=1+A.length+1+B.length+1+Q.length:=by
 simp[ByteArray.size_append,ByteArray.size];omega
theorem awa(A B Q:List UInt8):((⟨#[59]⟩:ByteArray)++⟨A.toArray⟩++⟨#[44]⟩++⟨B.toArray⟩++⟨#[44]⟩++⟨Q.toArray⟩).data.toList=59::(A++(44::(B++(44::Q)))):=by simp
theorem ana(x:Ct)(hx:okX x)(w:World)(hL:Laid Tryz.prog w)(a1 a2:Option Addr)(c1 c2:Nat)
  (hli:0<x.li.length->∃b o,a1=some ⟨b,o,none⟩/\∀i,i<x.li.length->w.cell? ⟨b,o+i,none⟩=some (.int .i64 (el x.li i)))
  (hpi:0<x.pi.length->∃b o,a2=some ⟨b,o,none⟩/\∀i,i<x.pi.length->w.cell? ⟨b,o+i*3,none⟩=some (.int .i64 (el x.pi i).au)/\w.cell? ⟨b,o+i*3+1,none⟩=some (.int .i64 (el x.pi i).he)/\w.cell? ⟨b,o+i*3+2,none⟩=some (.string ⟨(el x.pi i).di.toArray⟩)):
  Calls Tryz.prog 134 #[.agg #[.slice a1 x.li.length c1,.slice a2 x.pi.length c2]] w fun e w'=>e= .returned (.string ⟨(eb x).toArray⟩)/\Below w.heap.size w w':=by
 have HX:Aside (okX x):=hx;have HLi:Aside _:=hli;have HPi:Aside _:=hpi;have HL:Aside _:=hL;clear hx hli hpi hL;obtain⟨n1,e1⟩: ∃n,n=x.li.length:=⟨_,rfl⟩;obtain⟨n2,e2⟩: ∃n,n=x.pi.length:=⟨_,rfl⟩;rw[<-e1,<-e2];have E12:Aside (n1=x.li.length/\n2=x.pi.length):=⟨e1,e2⟩;have hb1:n1<=1000000:=by rw[e1];exact HX.out.1.1
 have hb2:n2<=100000000:=by rw[e2];exact Nat.le_trans (ay1 x.pi) HX.out.1.2
 clear e1 e2
 go_enter Tryz.func134,Tryz.ntmps134
 go_wp2
 have s1:w.heap.size+1=(w.alloc (.cells #[.slice a1 n1 c1,.slice a2 n2 c2] 25)).heap.size:=a3g w _;have d0:(w.alloc (.cells #[.slice a1 n1 c1,.slice a2 n2 c2] 25)).cell? ⟨w.heap.size,1,none⟩=some (.slice a2 n2 c2):=a3i w _ _ _;have bw:Below w.heap.size w (w.alloc (.cells #[.slice a1 n1 c1,.slice a2 n2 c2] 25)):=(Below.refl _ w).alloc (Nat.le_refl _) _;rw[s1];generalize w.alloc (.cells #[.slice a1 n1 c1,.slice a2 n2 c2] 25)=w1 at s1 d0 bw ⊢;have T0:Aside (TJ w1 [] (w1.alloc (.cells #[.pointer none,.slice none 0 0] 190))):=⟨Lib.fresh_isBuilder _ _ w1,(Below.refl _ w1).alloc (Nat.le_refl _) _⟩;have L1:Laid Tryz.prog w1:=qr HL.out w1 fun b _ hb=>(bw.block b (Array.getElem?_eq_some_iff.1 hb).1).trans hb;have KW:Aside (w.heap.size+1=w1.heap.size/\w1.cell? ⟨w.heap.size,1,none⟩=some (.slice a2 n2 c2)/\Below w.heap.size w w1/\Laid Tryz.prog w1):=⟨s1,d0,bw,L1⟩;clear s1 d0 bw L1 HL;generalize w1.alloc (.cells #[.pointer none,.slice none 0 0] 190)=W0 at T0 ⊢
 go_loopg [11] n1 (fun g v wr=> ∃i:Nat,v= .int .i64 i/\i<=n1/\n1<=i+g/\Aside (TJ w1 ((x.li.take i).flatMap nB) wr))
 case atStart=>exact⟨0,rfl,Nat.zero_le _,by omega,T0.out⟩
 case round=>
  clear T0;obtain⟨i,rfl,hi,hg,T⟩:=hrel;by_cases hlt:i<n1
  ·have hltz:(i:Int)<(n1:Int):=by omega
   obtain⟨b,o,rfl,hc⟩:=HLi.out (by rw[<-E12.out.1];omega)
   have hci:wr.cell? ⟨b,o+i,none⟩=some (.int .i64 (el x.li i)):=by
    have h1:=hc i (by rw[<-E12.out.1];exact hlt);have h2:=T.out.bel.cell (p:=⟨b,o+i,none⟩) (by have:=block_lt_of_cell h1;have:=KW.out.1;simp only at*;omega);rw[h2,KW.out.2.2.1.cell (p:=⟨b,o+i,none⟩) (block_lt_of_cell h1)];exact h1
   clear hc;have hin:inR (el x.li i):=HX.out.2.1 _ (by have:=E12.out.1;simp only[el,bq,bf (show i<x.li.length by omega),Option.getD_some];exact List.getElem_mem _);have hm: ¬(9223372036854775807<(Lib.itoa (el x.li i)).length+1):=by have:=fm hin;omega
   have HIN:Aside (inR (el x.li i)):=hin;clear hin
   go_wp2_with (go_at_call 155;refine(a5d _ HIN.out w1 _ _ T.out KW.out.2.2.2).mono ?_)
   rintro e W2 ⟨rfl,T2,_⟩;clear T;have T2':Aside (TJ w1 (List.flatMap nB (List.take i x.li)) W2):=T2;clear T2
   go_wp2_with (go_at_call 154;refine(a67 _ w1 _ _ T2'.out ?hw).mono ?_)
   case hw=>
    have a1:=az4 x.li HX.out.2.1;have a2:=HX.out.1.1;have a3:=fm HIN.out;have a4:=s7 nB x.li i;have a5:(({data:=(Lib.itoa (el x.li i)).toArray}:ByteArray)++{data:= #[44]}).size=(Lib.itoa (el x.li i)).length+1:=by simp[ByteArray.size_append,ByteArray.size]
    omega
   rintro e W3 ⟨rfl,T3,_⟩;have T3':Aside (TJ w1 _ W3):=T3;clear T3
   go_wp2
   go_roundg (n1 - (i+1))
   case measure=>omega
   case rel=>
    refine⟨i+1,by go_num,by omega,by omega,?_⟩;have a1:i<x.li.length:=by rw[<-E12.out.1];exact hlt
    have a2:(x.li.take (i+1)).flatMap nB=(x.li.take i).flatMap nB++(({data:=(Lib.itoa (el x.li i)).toArray}:ByteArray)++{data:= #[44]}).data.toList:=by
     rw[c9 a1,List.flatMap_append];simp[nB]
    show TJ w1 _ _;rw[a2];exact T3'.out
  ·have hin1:i=n1:=by omega
   subst hin1
   have T1:Aside (TJ w1 (x.li.flatMap nB) wr):=by
    have:=T.out;rw[E12.out.1,List.take_length]at this;exact this
   clear T hg hi HLi;have hltz: ¬((i:Int)<(i:Int)):=by omega
   have hc1:wr.cell? ⟨w.heap.size,1,none⟩=some (.slice a2 n2 c2):=by
    rw[T1.out.bel.cell (p:=⟨w.heap.size,1,none⟩) (by have:=KW.out.1;simp only;omega)];exact KW.out.2.1
   go_wp2
   clear hc1
   go_loopg [23] n2 (fun g v wr=> ∃j:Nat,v= .int .i64 j/\j<=n2/\n2<=j+g/\Aside (TJ w1 (x.li.flatMap nB++(x.pi.take j).flatMap tpB) wr))
   case atStart=>exact⟨0,rfl,Nat.zero_le _,by omega,by have:=T1.out;show TJ w1 _ _;simpa using this⟩
   case round=>
    clear T1;obtain⟨j,rfl,hj,hg,T⟩:=hrel;by_cases hlt:j<n2
    ·have hltz:(j:Int)<(n2:Int):=by omega
     obtain⟨b,o,rfl,hc⟩:=HPi.out (by rw[<-E12.out.2];omega)
     have hk: ∀k z,w.cell? ⟨b,k,none⟩=some z->wr.cell? ⟨b,k,none⟩=some z:=fun k z h1=>by
      rw[T.out.bel.cell (p:=⟨b,k,none⟩) (by have:=block_lt_of_cell h1;have:=KW.out.1;simp only at*;omega),KW.out.2.2.1.cell (p:=⟨b,k,none⟩) (block_lt_of_cell h1)];exact h1
     obtain⟨q0,q1,q2⟩:=hc j (by rw[<-E12.out.2];exact hlt);have k0:=hk _ _ q0;have k1:=hk _ _ q1;have k2:=hk _ _ q2;clear q0 q1 q2 hk hc HPi;generalize hp:el x.pi j=p at k0 k1 k2;have HP:Aside (el x.pi j=p):=hp
     go_wp2
     have hpm:p∈x.pi:=by rw[<-hp];have:=E12.out.2;simp only[el,bq,bf (show j<x.pi.length by omega),Option.getD_some];exact List.getElem_mem _
     have HR:Aside (inR p.au/\inR p.he/\p.di.length<=100000000):=⟨(HX.out.2.2 p hpm).1,(HX.out.2.2 p hpm).2,Nat.le_trans (by simp only[pnB,List.length_append,aw,fe];omega) (Nat.le_trans (aiw pnB x.pi p hpm) HX.out.1.2)⟩;have T4:Aside (TJ w1 (x.li.flatMap nB++(x.pi.take j).flatMap tpB) (wr.alloc (.cells #[.int .i64 p.au,.int .i64 p.he,.string ⟨p.di.toArray⟩] 93))):=T.out.step ((Below.refl _ wr).alloc (Nat.le_refl _) _);have hal:=Array.getElem?_push_size (xs:=wr.heap) (x:=Obj.cells #[.int .i64 p.au,.int .i64 p.he,.string ⟨p.di.toArray⟩] 93);have hal2:(wr.alloc (.cells #[.int .i64 p.au,.int .i64 p.he,.string ⟨p.di.toArray⟩] 93)).heap[wr.heap.size]? =some (.cells #[.int .i64 p.au,.int .i64 p.he,.string ⟨p.di.toArray⟩] 93):=hal;have m0:(wr.alloc (.cells #[.int .i64 p.au,.int .i64 p.he,.string ⟨p.di.toArray⟩] 93)).cell? ⟨wr.heap.size,0,none⟩=some (.int .i64 p.au):=by rw[Lib.cell_of_heap hal2];rfl
     have m1:(wr.alloc (.cells #[.int .i64 p.au,.int .i64 p.he,.string ⟨p.di.toArray⟩] 93)).cell? ⟨wr.heap.size,1,none⟩=some (.int .i64 p.he):=by rw[Lib.cell_of_heap hal2];rfl
     have m2:(wr.alloc (.cells #[.int .i64 p.au,.int .i64 p.he,.string ⟨p.di.toArray⟩] 93)).cell? ⟨wr.heap.size,2,none⟩=some (.string ⟨p.di.toArray⟩):=by rw[Lib.cell_of_heap hal2];rfl
     have T4d:TS w1 (x.li.flatMap nB++(x.pi.take j).flatMap tpB) wr.heap.size p (wr.alloc (.cells #[.int .i64 p.au,.int .i64 p.he,.string ⟨p.di.toArray⟩] 93)).drew:=⟨⟨T4.out.bld,T4.out.bel.drew⟩,hal2,by
      have:=T.out.bld;have h5:w1.heap.size<wr.heap.size:=by rcases this with h|h<;>exact h.lt
      omega⟩
     clear hal hal2 k0 k1 k2 T;generalize wr.alloc (.cells #[.int .i64 p.au,.int .i64 p.he,.string ⟨p.di.toArray⟩] 93)=W4 at T4 T4d m0 m1 m2 ⊢;generalize wr.heap.size=wb at m0 m1 m2 T4d ⊢;have z1: ¬(9223372036854775807<1+(Lib.itoa p.au).length):=by have:=fm HR.out.1;omega
     have z2: ¬(9223372036854775807<1+(Lib.itoa p.au).length+1):=by have:=fm HR.out.1;omega
     have z3: ¬(9223372036854775807<1+(Lib.itoa p.au).length+1+(Lib.itoa p.he).length):=by have:=fm HR.out.1;have:=fm HR.out.2.1;omega
     have z4: ¬(9223372036854775807<1+(Lib.itoa p.au).length+1+(Lib.itoa p.he).length+1):=by have:=fm HR.out.1;have:=fm HR.out.2.1;omega
     have z5: ¬(9223372036854775807<1+(Lib.itoa p.au).length+1+(Lib.itoa p.he).length+1+(qB p.di).length):=by have:=fm HR.out.1;have:=fm HR.out.2.1;have:=aqe p.di;have:=HR.out.2.2;omega
     have ZL:Aside ((x.li.flatMap nB++(x.pi.take j).flatMap tpB).length+(1+(Lib.itoa p.au).length+1+(Lib.itoa p.he).length+1+(qB p.di).length)<=140737488355328):=by
      have a1:=az4 x.li HX.out.2.1;have a2:=HX.out.1.1;have a3:=a6b x.pi HX.out.2.2;have a4:=HX.out.1.2;have a5:=s7 tpB x.pi j;have:=fm HR.out.1;have:=fm HR.out.2.1;have:=aqe p.di;have:=HR.out.2.2;show _<=_;simp only[List.length_append];omega
     go_region_held3 (fun w'=>w'.cell? ⟨wb,0,none⟩=some (.int .i64 p.au)/\w'.cell? ⟨wb,1,none⟩=some (.int .i64 p.he)/\w'.cell? ⟨wb,2,none⟩=some (.string ⟨p.di.toArray⟩)/\TL w1 wb p w') (first|assumption|exact⟨hT.c0,hT.c1,hT.c2,_,hT⟩|exact⟨T4d.c0,T4d.c1,T4d.c2,_,T4d⟩)
      (first
       |(go_at_call_of 155 (Value.int .i64 p.au);refine(a5o _ HR.out.1 (by assumption) KW.out.2.2.2).mono ?_;rintro e w' ⟨rfl,hT⟩)
       |(go_at_call_of 155 (Value.int .i64 p.he);refine(a5o _ HR.out.2.1 (by assumption) KW.out.2.2.2).mono ?_;rintro e w' ⟨rfl,hT⟩)
       |(go_at_call 156;refine(a7h _ HR.out.2.2 (by assumption) KW.out.2.2.2).mono ?_;rintro e w' ⟨rfl,hT⟩)
       |(go_at_call 154;refine(a9a _ (acc:=x.li.flatMap nB++(x.pi.take j).flatMap tpB) (by assumption) (by rw[awk];exact ZL.out)).mono ?_;rintro e w' ⟨rfl,hT⟩))
     have HT:Aside (TS w1 _ wb p w'):=hT;clear hT
     go_wp2
     go_roundg (n2 - (j+1))
     case measure=>omega
     case rel=>
      refine⟨j+1,by go_num,by omega,by omega,?_⟩;have a1:j<x.pi.length:=by rw[<-E12.out.2];exact hlt
      have a2:(x.pi.take (j+1)).flatMap tpB=(x.pi.take j).flatMap tpB++tpB p:=by
       rw[c9 a1,List.flatMap_append,HP.out];simp
      have a3:=HT.out.tj;rw[awa]at a3;show TJ w1 _ _;rw[a2,<-List.append_assoc];exact a3
    ·have hjn:j=n2:=by omega
     subst hjn
     have T1:Aside (TJ w1 (eb x) wr):=by
      have:=T.out;rw[E12.out.2,List.take_length]at this;exact this
     clear T hg hj HPi;have hltz: ¬((j:Int)<(j:Int)):=by omega
     go_wp2_with (go_at_call 157;refine(Any.Builder_String_any Tryz.laysBStr Tryz.laysBStrX w1.heap.size w1.heap.size (eb x) _ T1.out.bld T1.out.bel.size).mono ?_)
     rintro e W ⟨rfl⟩ hb;have HB:Aside (Below w1.heap.size wr W):=hb;clear hb
     go_wp2
     go_ret
     refine⟨rfl,?_⟩;have hb:=HB.out;have h1:=KW.out.2.2.1;have h2:=T1.out.bel;have h3:=KW.out.1;exact⟨hb.os.trans (h2.os.trans h1.os),hb.tape.trans (h2.tape.trans h1.tape),hb.output.trans (h2.output.trans h1.output),Nat.le_trans h1.size (Nat.le_trans h2.size hb.size),fun k hk=>(hb.block k (by omega)).trans ((h2.block k (by omega)).trans (h1.block k hk))⟩
theorem u1(b o n:Nat):(⟨b,o,none⟩:Addr).add n=⟨b,o+n,none⟩:=by
 unfold Addr.add;split
 ·rename_i h;rw[h];rfl
 ·rfl
theorem af4{w:World}{a:Addr}{z:Value}(h:w.cell? a=some z): ∃b o,a=⟨b,o,none⟩:=by
 obtain⟨b,o,v⟩:=a
 cases v with
 |none=>exact⟨b,o,rfl⟩
 |some v=>
  simp only[World.cell?]at h;split at h<;>simp at h
theorem ajd(x:Ct)(hx:okX x):Den Tryz.prog 134 [.agg (ct x)] [] (.str (eb x)) [] []:=by
 refine wx (enters_of Tryz.func134 (by kernel_rfl) rfl) fun w V vals hL hV hlen hval=> ?_
 obtain⟨v,rfl⟩: ∃v,vals=[v]:=by
  match vals,hlen with
  |[v],_=>exact⟨v,rfl⟩
 obtain⟨E,hr,hE⟩:=hval 0 v (.agg (ct x)) rfl rfl;obtain⟨vs,rfl,hs,hc⟩:=hr.agg_inv;have hs2:vs.size=2:=hs;have r1:=(hc 0 (.vs (x.li.map i1)) rfl).vs_inv;have r2:=(hc 1 (.vs (x.pi.map pn)) rfl).vs_inv;obtain⟨a1,c1,U1,e1,_,g1,k1⟩:=ajp (sz:=1) r1 (fun y hy=>by obtain⟨n,_,rfl⟩:=List.mem_map.1 hy;rfl);obtain⟨a2,c2,U2,e2,_,g2,k2⟩:=ajp (sz:=3) r2 (fun y hy=>by obtain⟨n,_,rfl⟩:=List.mem_map.1 hy;rfl);rw[List.length_map]at e1 e2 g1 g2
 have hv:vs= #[.slice a1 x.li.length c1,.slice a2 x.pi.length c2]:=by
  apply Array.ext (by simpa using hs2);intro i h1 h2
  match i with
  |0=>rw[<-e1];simp[Array.getD,hs2]
  |1=>rw[<-e2];simp[Array.getD,hs2]
  |i+2=>omega
 subst hv;refine(ana x hx w hL a1 a2 c1 c2 (fun h0=> ?_) (fun h0=> ?_)).mono ?_
 ·obtain⟨ad,rfl,hp⟩:=g1 h0
  have f: ∀i,i<x.li.length->w.cell? (ad.add (i*1+0))=some (.int .i64 (el x.li i)):=fun i hi=>by
   have q:=k1 i (i1 (el x.li i)) 0 (.int .i64 (el x.li i)) (by rw[List.getElem?_map,bf hi];simp[el,bq,bf hi]) rfl;have q2:=(hE _ _ (hp i (i1 (el x.li i)) 0 (.int .i64 (el x.li i)) (by rw[List.getElem?_map,bf hi];simp[el,bq,bf hi]) rfl)).1;generalize U1 i 0=u at q q2
   cases q
   exact q2
  obtain⟨b,o,hb⟩:=af4 (f 0 h0);refine⟨b,o,by simpa [Addr.add] using hb,fun i hi=> ?_⟩;have h1:=f i hi;have hb':ad=⟨b,o,none⟩:=by simpa [Addr.add] using hb
  rw[hb',u1]at h1;simpa using h1
 ·obtain⟨ad,rfl,hp⟩:=g2 h0
  have row: ∀i,i<x.pi.length->(x.pi.map pn)[i]? =some (pn (el x.pi i)):=fun i hi=>by
   rw[List.getElem?_map,bf hi];simp[el,bq,bf hi]
  have f0: ∀i,i<x.pi.length->w.cell? (ad.add (i*3+0))=some (.int .i64 (el x.pi i).au):=fun i hi=>by
   have q:=k2 i _ 0 _ (row i hi) rfl;have q2:=(hE _ _ (hp i _ 0 _ (row i hi) rfl)).1;generalize U2 i 0=u at q q2
   cases q
   exact q2
  have f1: ∀i,i<x.pi.length->w.cell? (ad.add (i*3+1))=some (.int .i64 (el x.pi i).he):=fun i hi=>by
   have q:=k2 i _ 1 _ (row i hi) rfl;have q2:=(hE _ _ (hp i _ 1 _ (row i hi) rfl)).1;generalize U2 i 1=u at q q2
   cases q
   exact q2
  have f2: ∀i,i<x.pi.length->w.cell? (ad.add (i*3+2))=some (.string ⟨(el x.pi i).di.toArray⟩):=fun i hi=>by
   have q:=k2 i _ 2 _ (row i hi) rfl;have q2:=(hE _ _ (hp i _ 2 _ (row i hi) rfl)).1;generalize U2 i 2=u at q q2
   cases q
   exact q2
  obtain⟨b,o,hb⟩:=af4 (f0 0 h0);have hb':ad=⟨b,o,none⟩:=by simpa [Addr.add] using hb
  subst hb';exact⟨b,o,rfl,fun i hi=>⟨by have:=f0 i hi;rwa [u1]at this,by have:=f1 i hi;rwa [u1,<-Nat.add_assoc]at this,by have:=f2 i hi;rwa [u1,<-Nat.add_assoc]at this⟩⟩
 ·rintro e W' ⟨rfl,hB⟩;exact⟨_,rfl,hB,.str _⟩
end Go.Proofs.Am
