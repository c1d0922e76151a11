/- PThree. -/
import Derived.Test.YteakcpfdfglndaaGreatDoorPOne
import Derived.Test.YteakcpfdfglndaaGreatDoorPTwo
import Derived.Test.YteakcpfdfglndaaGreatDoorUFour
import Derived.Test.YteakcpfdfglndaaGreatDoorXOne
import Derived.Test.YteakcpfdfglndaaGreatDoorQTwo
import Derived.Test.YteakcpfdfglndaaGreatDoorXFour
set_option maxHeartbeats 1000000
set_option maxRecDepth 100000
set_option linter.unusedSimpArgs false
set_option linter.unusedVariables false
namespace Go.Proofs.Am
open Go Go.RowKit
open Go.Proofs
theorem p3{r:Rl}{t:Tm}(h:qm r t=0):dp r=0∧OkT t:=by
 unfold qm at h
 split at h
 ·rename_i h1
  exact absurd h h1
 ·rename_i h1
  split at h
  ·cases h
  ·rename_i h2
   unfold awj at h
   split at h
   ·rename_i h3
    split at h
    ·rename_i h4
     exact⟨by simpa using h1,⟨h3.1,h3.2,by simpa using h2,h4⟩⟩
    ·cases h
   ·cases h
theorem abh(n m:Nat):okR n m .nilm=True:=eq_true .nilm
theorem nz(r:Rl)(L:List Stm)(t:Tm)(he:qm r t≠0)(hB:RlB r)(hbT:big t.ros.length)(hL:L.length≤900)(hs: ∀s∈L,gx s)(hp: ∀s∈L,plS s):Den Tryz.prog 35 [.agg (rl r),.vs (L.map sm),.agg (tm t)] [] (.tup [.nilm,.int .i64 (qm r t)]) [] []:=by
 refine aa Tryz.mixed Tryz.func35 rfl Tryz.call35 Tryz.ntmps35 (congrArg Array.toList Tryz.results35) (by simp) (by kernel_rfl) [] (exts:=[]) rfl rfl ?_
 have c1:=akg r (by have:=hB.g;simp only[big];omega) (by have:=hB.s;simp only[big];omega) (by have:=hB.t;simp only[big];omega)
 have c2:=kx t.ros hbT
 have hE:qm r t=if dp r≠0 then dp r else if i8 t.ros=false then 43 else awj t:=rfl
 generalize qm r t=e at*
 rw[bu]at c1
 by_cases h1:dp r=0
 rotate_left
 ·rw[if_pos h1]at hE
  subst hE
  simp only[go_sem]
  refine call c1 [] ?_
  simp only[go_sem,h1,abh]
 rw[if_neg (by simpa using h1)]at hE
 rw[h1]at c1
 by_cases h2:i8 t.ros=false
 ·rw[if_pos h2]at hE
  subst hE
  rw[h2]at c2
  simp only[go_sem]
  refine call c1 [] ?_
  simp only[go_sem]
  refine call c2 [] ?_
  simp only[go_sem,abh]
 rw[if_neg h2]at hE
 have h2:i8 t.ros=true:=by simpa using h2
 obtain⟨_,hrng,hne,_⟩:=gh h2
 have h0:0<t.ros.length:=List.length_pos_iff.2 hne
 have hk:=aw h0
 have c3:=al7 r L t (gv t 3 (el t.ros 0)) hB hbT hL hs (ni hp) (ni hp)
 have ho:=(aib (L:=L) (k:=el t.ros 0) (kd:=3) h1 h2 (hrng _ hk) (by omega)).trans hE.symm
 have c4:=abf t (el t.ros 0)
 rw[h2]at c2
 generalize rf r L t (gv t 3 (el t.ros 0))=O at*
 obtain⟨x,ok,e'⟩:=O
 dsimp only at c3 ho
 subst ho
 simp only[bu,fy,bd,gk,gv]at c3 c4
 have hlt:(0:Int)<(t.ros.length:Int):=by omega
 simp only[go_sem]
 refine call c1 [] ?_
 simp only[go_sem]
 refine call c2 [] ?_
 simp only[go_sem]
 refine loop Tryz.mixed (0:Nat) (fun i:Nat=>[(1,.vs (L.map sm)),(3,.ptr 3 0),(5,.ptr 5 0),(9,.mh 24),(26,.vs (t.ros.map i1)),(27,.int .i64 t.ros.length),(28,.int .i64 i)]) (fun i=>[(3,.cells (rl r)),(5,.cells (tm t)),(24,.mp [])]) (fun i=>i=0) (fun i=>0) (by kernel_rfl) rfl ?_ ?_
 ·simp only[go_sem]
 ·intro i hi
  subst hi
  simp only[go_sem,hlt,h0]
  refine call c4 [] ?_
  simp only[go_sem,hlt,h0]
  refine call c3 [] ?_
  simp only[go_sem,he,abh]
  exact ae (by kernel_rfl)
def mn(r:Rl)(L:List Stm)(t:Tm):List Int×Int:=if qm r t≠0 then([],qm r t)else(ij r L t,0)
theorem awd(r:Rl)(L:List Stm)(t:Tm)(hB:RlB r)(hbT:big t.ros.length)(hL:L.length≤900)(hs: ∀s∈L,gx s)(hp: ∀s∈L,plS s):Den Tryz.prog 15 [.agg (rl r),.vs (L.map sm),.agg (tm t)] [] (.tup [.vs ((mn r L t).1.map i1),.int .i64 (mn r L t).2]) [] []:=by
 by_cases he:qm r t=0
 ·obtain⟨hr,ht⟩:=p3 he
  rw[mn,if_neg (by simpa using he)]
  exact pz r L t hr ht hB hL hs hp
 rw[mn,if_pos he]
 refine aa Tryz.mixed Tryz.func15 rfl Tryz.call15 Tryz.ntmps15 (congrArg Array.toList Tryz.results15) (by simp) (by kernel_rfl) [] (exts:=[]) rfl rfl ?_
 have c1:=nz r L t he hB hbT hL hs hp
 rw[bu,fy]at c1
 simp only[go_sem]
 refine call c1 [] ?_
 simp only[go_sem,he,List.map_nil]
def ajy(r:Rl)(L:List Stm)(t:Tm)(G:List Int):List Int×Int:=if qm r t≠0 then([],qm r t)else(a8f r L t G,0)
theorem azy(r:Rl)(L:List Stm)(t:Tm)(hB:RlB r)(hbT:big t.ros.length)(hL:L.length≤900)(hs: ∀s∈L,gx s)(hp: ∀s∈L,plS s)(G:List Int)(hG:G.length≤64)(cG:Den Tryz.prog 40 [.vs (L.map sm)] [] (.vs (G.map i1)) [] []):Den Tryz.prog 17 [.agg (rl r),.vs (L.map sm),.agg (tm t)] [] (.tup [.vs ((ajy r L t G).1.map i1),.int .i64 (ajy r L t G).2]) [] []:=by
 by_cases he:qm r t=0
 ·obtain⟨hr,ht⟩:=p3 he
  rw[ajy,if_neg (by simpa using he)]
  exact ass r L t hr ht hB hL hs hp G hG cG
 rw[ajy,if_pos he]
 refine aa Tryz.mixed Tryz.func17 rfl Tryz.call17 Tryz.ntmps17 (congrArg Array.toList Tryz.results17) (by simp) (by kernel_rfl) [] (exts:=[]) rfl rfl ?_
 have c1:=nz r L t he hB hbT hL hs hp
 rw[bu,fy]at c1
 simp only[go_sem]
 refine call c1 [] ?_
 simp only[go_sem,he,List.map_nil]
def acy(r:Rl)(L:List Stm)(t:Tm)(k:Int):Bool×Int:=if qm r t≠0 then(false,qm r t)else(decide (k∈t.ros)&& !decide (k∈ij r L t),0)
theorem axa(r:Rl)(L:List Stm)(t:Tm)(k:Int)(hB:RlB r)(hbT:big t.ros.length)(hL:L.length≤900)(hs: ∀s∈L,gx s)(hp: ∀s∈L,plS s):Den Tryz.prog 19 [.agg (rl r),.vs (L.map sm),.agg (tm t),.int .i64 k] [] (.tup [.bool (acy r L t k).1,.int .i64 (acy r L t k).2]) [] []:=by
 by_cases he:qm r t=0
 ·obtain⟨hr,ht⟩:=p3 he
  rw[acy,if_neg (by simpa using he)]
  exact ae1 r L t k hr ht hB hL hs hp
 rw[acy,if_pos he]
 refine aa Tryz.mixed Tryz.func19 rfl Tryz.call19 Tryz.ntmps19 (congrArg Array.toList Tryz.results19) (by simp) (by kernel_rfl) [] (exts:=[]) rfl rfl ?_
 have c1:=nz r L t he hB hbT hL hs hp
 rw[bu,fy]at c1
 simp only[go_sem]
 refine call c1 [] ?_
 simp only[go_sem,he]
def a3l(c x:Cs):Bool:=decide (x.ep=c.ep)&&(decide (x.kd=c.kd)&&decide (x.su=c.su))
def a0v(M:List Cs)(c:Cs):Bool:=M.any (a3l c)
theorem aqn(M:List Cs)(c:Cs)(hM:M.length≤1000000):Den Tryz.prog 61 [.vs (M.map cs),.agg (cs c)] [] (.bool (a0v M c)) [] []:=by
 refine aa Tryz.mixed Tryz.func61 rfl Tryz.call61 Tryz.ntmps61 (congrArg Array.toList Tryz.results61) (by simp) (by kernel_rfl) [] (exts:=[]) rfl rfl ?_
 rw[bd c]
 have hall:a0v M c=(M.drop 0).any (a3l c):=rfl
 generalize a0v M c=A at*
 simp only[go_sem]
 refine loop Tryz.mixed (0:Nat) (fun i:Nat=>[(0,.vs (M.map cs)),(3,.ptr 3 0),(5,.int .i64 i)]) (fun i=>[(3,.cells [.int .i64 c.ep,.int .i64 c.kd,.int .i64 c.su,.int .i64 c.ro])]) (fun i=>i≤M.length∧A=(M.drop i).any (a3l c)) (fun i=>M.length - i) (by kernel_rfl) ⟨Nat.zero_le _,hall⟩ ?_ ?_
 ·simp only[go_sem]
 ·rintro i ⟨hi,ha⟩
  by_cases h:i<M.length
  ·have hlt:(i:Int)<(M.length:Int):=by omega
   have hd:M.drop i=el M i::M.drop (i+1):=by
    rw[List.drop_eq_getElem_cons h]
    simp[el,List.getD_eq_getElem?_getD,List.getElem?_eq_getElem h]
   rw[hd,List.any_cons]at ha
   have hk:a3l c (el M i)=(decide ((el M i).ep=c.ep)&&(decide ((el M i).kd=c.kd)&&decide ((el M i).su=c.su))):=rfl
   by_cases h1:(el M i).ep=c.ep
   rotate_left
   ·rw[decide_eq_false h1,Bool.false_and]at hk
    rw[hk,Bool.false_or]at ha
    simp only[go_sem,hlt,h,h1]
    exact⟨ae (by kernel_rfl),i+1,⟨⟨by omega,ha⟩,by omega⟩,by rw[ag]<;>omega⟩
   by_cases h2:(el M i).kd=c.kd
   rotate_left
   ·rw[decide_eq_false h2,Bool.false_and,Bool.and_false]at hk
    rw[hk,Bool.false_or]at ha
    simp only[go_sem,hlt,h,h1,h2]
    exact⟨ae (by kernel_rfl),i+1,⟨⟨by omega,ha⟩,by omega⟩,by rw[ag]<;>omega⟩
   by_cases h3:(el M i).su=c.su
   rotate_left
   ·rw[decide_eq_false h3,Bool.and_false,Bool.and_false]at hk
    rw[hk,Bool.false_or]at ha
    simp only[go_sem,hlt,h,h1,h2,h3]
    exact⟨ae (by kernel_rfl),i+1,⟨⟨by omega,ha⟩,by omega⟩,by rw[ag]<;>omega⟩
   ·rw[decide_eq_true h1,decide_eq_true h2,decide_eq_true h3]at hk
    rw[hk,Bool.and_self,Bool.and_self,Bool.true_or]at ha
    subst ha
    simp only[go_sem,hlt,h,h1,h2,h3]
    exact ae (by kernel_rfl)
  ·have hlt: ¬(i:Int)<(M.length:Int):=by omega
   have:i=M.length:=by omega
   subst this
   rw[List.drop_length,List.any_nil]at ha
   subst ha
   simp only[go_sem,hlt]
theorem a3j(L:List Stm)(c:Cs):a0v (ane L L.length) c=y3 L c:=by rw[←ala];rfl
def bdd(r:Rl)(L:List Stm)(t:Tm)(kd:Int)(K:List Int):List Int×Int:=if qm r t≠0 then([],qm r t)else(K.filter fun k=>jc r L t kd k,0)
theorem a0c(r:Rl)(L:List Stm)(t:Tm)(kd:Int)(K:List Int)(hKl:K.length≤100000)(hK:i8 t.ros=true→0<K.length∧∀k∈K,0≤k∧k<64)(hkd:kd=2∨kd=3)(hB:RlB r)(hbT:big t.ros.length)(hL:L.length≤900)(hs: ∀s∈L,gx s):Den Tryz.prog 39 [.agg (rl r),.vs (L.map sm),.agg (tm t),.int .i64 kd,.vs (K.map i1)] [] (.tup [.vs ((bdd r L t kd K).1.map i1),.int .i64 (bdd r L t kd K).2]) [] []:=by
 refine aa Tryz.mixed Tryz.func39 rfl Tryz.call39 Tryz.ntmps39 (congrArg Array.toList Tryz.results39) (by simp) (by kernel_rfl) [] (exts:=[]) rfl rfl ?_
 have c1:=qf r (by have:=hB.g;simp only[big];omega) (by have:=hB.s;simp only[big];omega) (by have:=hB.t;simp only[big];omega)
 have c2:=arv t.ros hbT
 have c0:=s4 L (by omega) hs
 have hE:qm r t=if dp r≠0 then dp r else if i8 t.ros=false then 43 else awj t:=rfl
 have hR:bdd r L t kd K=if qm r t≠0 then([],qm r t)else(K.filter fun k=>jc r L t kd k,0):=rfl
 generalize bdd r L t kd K=Q at*
 generalize qm r t=e at*
 rw[bu]at c1
 by_cases h1:dp r=0
 rotate_left
 ·rw[if_pos h1]at hE
  subst hE
  rw[if_pos h1]at hR
  subst hR
  simp only[go_sem]
  refine call c1 [] ?_
  simp only[go_sem,h1,List.map_nil]
 rw[if_neg (by simpa using h1)]at hE
 rw[h1]at c1
 by_cases h2:i8 t.ros=false
 ·rw[if_pos h2]at hE
  subst hE
  rw[if_pos (by decide)]at hR
  subst hR
  rw[h2]at c2
  simp only[go_sem]
  refine call c1 [] ?_
  simp only[go_sem]
  refine call c2 [] ?_
  simp only[go_sem,List.map_nil]
 rw[if_neg h2]at hE
 have h2:i8 t.ros=true:=by simpa using h2
 rw[h2]at c2
 obtain⟨h0,hrng⟩:=hK h2
 have hI:K.filter (fun k=>jc r L t kd k)=arm r L t kd K K.length:=yesD_all.symm
 rw[hI]at hR
 clear hI
 have hs1:=fun i (h:i<K.length)=>agy (r:=r) (L:=L) (t:=t) (kd:=kd) h
 have hs2:=fun i (h:i<K.length)=>aud (r:=r) (L:=L) (t:=t) (kd:=kd) h
 have hln:=fun i=>a16 (r:=r) (L:=L) (t:=t) (kd:=kd) (keys:=K) (i:=i)
 have hz:=atw r L t kd K
 generalize arm r L t kd K=I at*
 have c3:=fun k:Int=>a0o r L t (gv t kd k) hB hbT hL hs
 have ho:=fun(k:Int) (hk:k∈K)=>(aib (L:=L) (k:=k) (kd:=kd) h1 h2 (hrng _ hk) hkd).trans hE.symm
 have hb:=fun k:Int=>alg (r:=r) (L:=L) (t:=t) (c:=gv t kd k)
 have hS: ∀k:Int,jc r L t kd k=((rf r L t (gv t kd k)).2.1&&decide ((rf r L t (gv t kd k)).1.li=[1])):=fun k=>rfl
 have c5:=fun k:Int=>aqn (ane L L.length) (gv t kd k) (Nat.le_trans (abt _ (Nat.le_refl _)) (by omega))
 simp only[a3j]at c5
 generalize (ane L L.length).map cs=C at*
 simp only[bu,fy,bd,gk,gv]at c3 c5
 simp only[go_sem]
 refine call c1 [] ?_
 simp only[go_sem]
 refine call c2 [] ?_
 simp only[go_sem]
 refine call c0 [] ?_
 simp only[go_sem]
 refine br 14 110 3 1 false ?_ ?_ ?_ (by omega)
 ·refine loop Tryz.mixed (0:Nat) (fun i:Nat=>[(1,.vs (L.map sm)),(3,.int .i64 kd),(4,.vs (K.map i1)),(5,.ptr 5 0),(7,.ptr 7 0),(13,.vs C),(14,.os 110 (I i).length),(15,.int .i64 i)]) (fun i=>[(5,.cells (rl r)),(7,.cells (tm t)),(110,.arr 3 1 false ((I i).map i1))]) (fun i=>i≤K.length∧(e≠0→i=0)) (fun i=>K.length - i) (by kernel_rfl) ⟨Nat.zero_le _,fun _=>rfl⟩ ?_ ?_
  ·rw[hz]
   simp only[go_sem,List.map_nil,List.length_nil]
   done
  ·rintro i ⟨hi,hei⟩
   by_cases h:i<K.length
   ·have hlt:(i:Int)<(K.length:Int):=by omega
    have hk:=aw h
    have hs1:=hs1 i h
    have hs2:=hs2 i h
    have hln:=hln i
    have c3:=c3 (el K i)
    have c5:=c5 (el K i)
    have ho:=ho _ hk
    have hb:=hb (el K i)
    have hS:=hS (el K i)
    have hkc:gv t kd (el K i)=⟨t.ep,kd,el K i,0⟩:=rfl
    rw[hkc]at hs2 ho hb hS
    generalize rf r L t ⟨t.ep,kd,el K i,0⟩=O at*
    obtain⟨x,ok,e'⟩:=O
    dsimp only at c3 ho hb hS
    subst ho
    have cy:=jz x.li [1] hb.1 (by simp[big])
    generalize jc r L t kd (el K i)=sb at*
    generalize y3 L ⟨t.ep,kd,el K i,0⟩=so at*
    have pre:(0<i∧so=false∧e'=0)∨(0<i∧so=true∧e'=0)∨¬0<i:=by
     by_cases hi0:0<i
     ·have he:e'=0:=by
       by_cases he:e'=0
       ·exact he
       ·have:=hei he;omega
      cases so
      ·exact .inl ⟨hi0,rfl,he⟩
      ·exact .inr (.inl ⟨hi0,rfl,he⟩)
     ·exact .inr (.inr hi0)
    have nx: ∀w:Bool,sb=w→I (i+1)=I i++(if w=true then [el K i]else []):=fun w hw=>by rw[←hw];exact hs1
    rcases pre with ⟨hi0,rfl,rfl⟩|⟨hi0,rfl,rfl⟩|hi0
    ·have hgt:(0:Int)<(i:Int):=by omega
     have n0:=hs2 rfl
     generalize I i=o at*
     simp only[go_sem,hlt,h,hgt]
     refine⟨ae (by kernel_rfl),call c5 [] ?_⟩
     simp only[go_sem]
     refine⟨i+1,⟨by omega,by omega⟩,?_⟩
     rw[n0]
     exact⟨⟨rfl,by rw[ag]<;>omega⟩,rfl⟩
    case' inr.inl=>
     have hgt:(0:Int)<(i:Int):=by omega
     generalize I i=o at*
     simp only[go_sem,hlt,h,hgt]
     refine⟨ae (by kernel_rfl),call c5 [] ?_⟩
     simp only[go_sem]
    case' inr.inr=>
     have hgt: ¬(0:Int)<(i:Int):=by omega
     by_cases he:e'=0
     rotate_left
     ·rw[if_pos he]at hR
      subst hR
      simp only[go_sem,hlt,h,hgt]
      refine⟨ae (by kernel_rfl),call c3 [] ?_⟩
      simp only[go_sem,he,List.map_nil]
     subst he
     generalize I i=o at*
     simp only[go_sem,hlt,h,hgt]
     refine⟨ae (by kernel_rfl),?_⟩
    all_goals
     refine call c3 [] ?_
     cases ok
     ·rw[Bool.false_and]at hS
      have n0:=nx false hS
      rw[if_neg (by simp),List.append_nil]at n0
      simp only[go_sem]
      refine⟨i+1,⟨by omega,by omega⟩,?_⟩
      rw[n0]
      exact⟨⟨rfl,by rw[ag]<;>omega⟩,rfl⟩
     ·rw[Bool.true_and]at hS
      simp only[go_sem]
      refine call cy [] ?_
      cases hd:decide (x.li=[1])
      ·have n0:=nx false (by rw[hS,hd])
       rw[if_neg (by simp),List.append_nil]at n0
       simp only[go_sem]
       refine⟨i+1,⟨by omega,by omega⟩,?_⟩
       rw[n0]
       exact⟨⟨rfl,by rw[ag]<;>omega⟩,rfl⟩
      ·have n0:=nx true (by rw[hS,hd])
       rw[if_pos rfl]at n0
       simp only[go_sem,hlt,h]
       refine⟨by omega,i+1,⟨by omega,by omega⟩,?_⟩
       rw[n0]
       exact⟨⟨by simp,by rw[ag]<;>omega⟩,by simp[i1]⟩
   ·have hlt: ¬(i:Int)<(K.length:Int):=by omega
    have:i=K.length:=by omega
    subst this
    have he:e=0:=by
     by_cases he:e=0
     ·exact he
     ·have:=hei he;omega
    subst he
    rw[if_neg (by simp)]at hR
    subst hR
    simp only[go_sem,hlt]
    done
 ·simp only[go_sem]
 ·simp only[go_sem]
theorem rj(r:Rl)(L:List Stm)(t:Tm)(hB:RlB r)(hbT:big t.ros.length)(hb9:t.ros.length≤1000)(hL:L.length≤900)(hs: ∀s∈L,gx s):Den Tryz.prog 16 [.agg (rl r),.vs (L.map sm),.agg (tm t)] [] (.tup [.vs ((mn r L t).1.map i1),.int .i64 (mn r L t).2]) [] []:=by
 refine aa Tryz.mixed Tryz.func16 rfl Tryz.call16 Tryz.ntmps16 (congrArg Array.toList Tryz.results16) (by simp) (by kernel_rfl) [] (exts:=[]) rfl rfl ?_
 have hP:bdd r L t 3 t.ros=mn r L t:=rfl
 have c1:=a0c r L t 3 t.ros (by omega) (fun h=>⟨List.length_pos_iff.2 (gh h).2.2.1,(gh h).2.1⟩) (.inr rfl) hB hbT hL hs
 rw[hP]at c1
 rw[bu,fy]at c1
 simp only[go_sem]
 refine call c1 [] ?_
 simp only[go_sem]
theorem aha{r:Rl}{L:List Stm}{t:Tm}(h:t.ros.length≤1000):big (mn r L t).1.length:=by
 unfold mn
 split
 ·simp[big]
 ·have:(ij r L t).length≤t.ros.length:=List.length_filter_le _ _
  simp only[big]
  omega
theorem amo{r:Rl}{L:List Stm}{t:Tm}{G:List Int}(h:t.ros.length≤1000):big (ajy r L t G).1.length:=by
 unfold ajy
 split
 ·simp[big]
 ·have:(a8f r L t G).length≤t.ros.length:=List.length_filter_le _ _
  simp only[big]
  omega
theorem aqb(r:Rl)(L:List Stm)(t:Tm)(k:Int)(hB:RlB r)(hbT:big t.ros.length)(hb9:t.ros.length≤1000)(hL:L.length≤900)(hs: ∀s∈L,gx s):Den Tryz.prog 20 [.agg (rl r),.vs (L.map sm),.agg (tm t),.int .i64 k] [] (.tup [.bool (acy r L t k).1,.int .i64 (acy r L t k).2]) [] []:=by
 refine aa Tryz.mixed Tryz.func20 rfl Tryz.call20 Tryz.ntmps20 (congrArg Array.toList Tryz.results20) (by simp) (by kernel_rfl) [] (exts:=[]) rfl rfl ?_
 have c1:=rj r L t hB hbT hb9 hL hs
 have hY:acy r L t k=if qm r t≠0 then(false,qm r t)else(decide (k∈t.ros)&& !decide (k∈ij r L t),0):=rfl
 have hS:mn r L t=if qm r t≠0 then([],qm r t)else(ij r L t,0):=rfl
 have hl:(ij r L t).length≤t.ros.length:=List.length_filter_le _ _
 generalize acy r L t k=Y at*
 generalize mn r L t=A at*
 have ch:=za t.ros k hbT
 have ch2:=za (ij r L t) k (by simp only[big];omega)
 generalize ij r L t=S at*
 rw[bu,fy]at c1
 by_cases he:qm r t=0
 ·rw[if_neg (by simpa using he)]at hY hS
  subst hY
  subst hS
  by_cases hk:k∈t.ros
  ·rw[decide_eq_true hk]at ch ⊢
   simp only[go_sem]
   refine call c1 [] ?_
   simp only[go_sem]
   refine call ch [] ?_
   simp only[go_sem]
   refine call ch2 [] ?_
   simp only[go_sem]
  ·rw[decide_eq_false hk]at ch ⊢
   simp only[go_sem]
   refine call c1 [] ?_
   simp only[go_sem]
   refine call ch [] ?_
   simp only[go_sem]
 ·rw[if_pos he]at hY hS
  subst hY
  subst hS
  simp only[go_sem]
  refine call c1 [] ?_
  simp only[go_sem,he]
theorem ano(r:Rl)(L:List Stm)(t:Tm)(hB:RlB r)(hbT:big t.ros.length)(hb9:t.ros.length≤1000)(hL:L.length≤900)(hs: ∀s∈L,gx s):Den Tryz.prog 18 [.agg (rl r),.vs (L.map sm),.agg (tm t)] [] (.tup [.vs ((ajy r L t (we L)).1.map i1),.int .i64 (ajy r L t (we L)).2]) [] []:=by
 refine aa Tryz.mixed Tryz.func18 rfl Tryz.call18 Tryz.ntmps18 (congrArg Array.toList Tryz.results18) (by simp) (by kernel_rfl) [] (exts:=[]) rfl rfl ?_
 have c1:=rj r L t hB hbT hb9 hL hs
 rw[bu,fy]at c1
 by_cases he:qm r t=0
 rotate_left
 ·have h1:ajy r L t (we L)=([],qm r t):=by rw[ajy,if_pos he]
  have h2:mn r L t=([],qm r t):=by rw[mn,if_pos he]
  rw[h1]
  rw[h2]at c1
  simp only[go_sem]
  refine call c1 [] ?_
  simp only[go_sem,he,List.map_nil]
 obtain⟨hr,ht⟩:=p3 he
 have h1:ajy r L t (we L)=(a8f r L t (we L),0):=by rw[ajy,if_neg (by simpa using he)]
 have h2:mn r L t=(ij r L t,0):=by rw[mn,if_neg (by simpa using he)]
 rw[h1]
 rw[h2]at c1
 have cG:=af3 L (by omega) hs
 have hGl:(we L).length≤64:=jj _ _
 generalize we L=G at*
 obtain⟨_,hrng,_,_⟩:=gh ht.ros
 have hlen:=ht.len
 have hcv: ∀k,k∈t.ros→dl (gv t 3 k)=true:=fun k hk=>kj ⟨ht.lo,ht.hi,(hrng k hk).1,(hrng k hk).2,by simp[gv],by simp[gv],.inr (.inr rfl)⟩
 have d0: ∀k,k∈t.ros→(et r L t (gv t 3 k)).2.2=0:=fun k hk=>by
  rcases ajd (L:=L) hr ht (hcv k hk) rfl with ⟨_,_,s3⟩|⟨s1,_⟩
  ·rw[s3]
  ·rw[pp hr ht (hcv k hk) rfl rfl]at s1;cases s1
 have c2:=fun k:Int=>za G k (by simp only[big];omega)
 have c3:=fun k:Int=>aa7 r L t (gv t 3 k) hB hbT hL hs
 have hsu:=fun i (h:i<t.ros.length)=>agb (r:=r) (L:=L) (t:=t) (G:=G) h
 have hln:=alz r L t G
 have hI0:aui r L t G 0=[]:=rfl
 rw[←ann]
 generalize aui r L t G=I at*
 generalize hD:(fun k=>et r L t (gv t 3 k))=D at*
 have hDk: ∀k,et r L t (gv t 3 k)=D k:=fun k=>congrFun hD k
 simp only[hDk]at d0 c3 hsu
 generalize ij r L t=S at*
 simp only[bu,fy,bd,gk,gv]at c3
 simp only[go_sem]
 refine call c1 [] ?_
 simp only[go_sem]
 refine call cG [] ?_
 simp only[go_sem]
 refine br 11 110 3 1 false ?_ ?_ ?_ (by omega)
 ·refine loop Tryz.mixed (0:Nat) (fun i:Nat=>[(1,.vs (L.map sm)),(3,.ptr 3 0),(5,.ptr 5 0),(10,.vs (G.map i1)),(11,.os 110 (I i).length),(12,.int .i64 i)]) (fun i=>[(3,.cells (rl r)),(5,.cells (tm t)),(110,.arr 3 1 false ((I i).map i1))]) (fun i=>i≤t.ros.length) (fun i=>t.ros.length - i) (by kernel_rfl) (Nat.zero_le _) ?_ ?_
  ·rw[hI0]
   simp only[go_sem,List.map_nil,List.length_nil]
   done
  ·intro i hi
   by_cases h:i<t.ros.length
   ·have hlt:(i:Int)<(t.ros.length:Int):=by omega
    have hk:=aw h
    have hsu:=hsu i h
    have hln:=hln i
    have d0:=d0 _ hk
    have c2:=c2 (el t.ros i)
    have c3:=c3 (el t.ros i)
    generalize I i=o at*
    generalize D (el t.ros i)=O at*
    obtain⟨x,b,e⟩:=O
    dsimp only at d0 c3 hsu
    subst d0
    simp only[go_sem,hlt,h]
    refine call c2 [] ?_
    by_cases hg:el t.ros i∈G
    rotate_left
    ·rw[decide_eq_false hg,Bool.false_and,if_neg (by simp),List.append_nil]at hsu
     simp only[go_sem,hg]
     refine⟨i+1,⟨by omega,by omega⟩,?_⟩
     rw[hsu]
     exact⟨⟨rfl,by rw[ag]<;>omega⟩,rfl⟩
    rw[decide_eq_true hg,Bool.true_and]at hsu
    simp only[go_sem,hg,hlt,h]
    refine call c3 [] ?_
    cases b
    ·rw[if_pos (by rfl)]at hsu
     simp only[go_sem,hlt,h]
     refine⟨ae (by kernel_rfl),by omega,i+1,⟨by omega,by omega⟩,?_⟩
     rw[hsu]
     exact⟨⟨by simp,by rw[ag]<;>omega⟩,by simp[i1]⟩
    ·rw[if_neg (by simp),List.append_nil]at hsu
     simp only[go_sem]
     refine⟨ae (by kernel_rfl),i+1,⟨by omega,by omega⟩,?_⟩
     rw[hsu]
     exact⟨⟨rfl,by rw[ag]<;>omega⟩,rfl⟩
   ·have hlt: ¬(i:Int)<(t.ros.length:Int):=by omega
    have:i=t.ros.length:=by omega
    subst this
    simp only[go_sem,hlt]
    done
 ·simp only[go_sem]
 ·simp only[go_sem]
structure SuS where
 R:Rl
 T:Tm
 V:PV
def SuI(s:SuS):Prop:=RlB s.R∧s.T.ros.length≤8∧(s.V= .vs (s.T.ros.map i1)∨s.V= .nils∧s.T.ros.map i1=[])
theorem apx(l:List Int)(z turn:Int):Den Tryz.prog 3 [.vs (l.map i1),.int .u8 z,.int .i64 turn] [] (.bool true) [] []:=by
 by_cases h400:l.length≤400
 rotate_left
 ·refine aa Tryz.mixed Tryz.func3 rfl Tryz.call3 Tryz.ntmps3 (congrArg Array.toList Tryz.results3) (by simp) (by kernel_rfl) [] (exts:=[]) rfl rfl ?_
  have hd:decide (l.length≤400)=false:=decide_eq_false h400
  simp only[go_sem]
  refine call (aez l) [] ?_
  simp only[go_sem,hd]
  refine call xl [] ?_
  simp only[go_sem]
 refine bfi Tryz.mixed Tryz.func3 rfl Tryz.call3 Tryz.ntmps3 (congrArg Array.toList Tryz.results3) (by simp) [] (exts:=[]) rfl rfl ?_
 have hd:decide (l.length≤400)=true:=decide_eq_true h400
 have hl:big l.length:=by simp only[big];omega
 have c1:=avc l 0 hl (Nat.zero_le _)
 have hB:RlB (dq l 0):=anx l 0
 have hTl:=atf (l:=l) (p:=0)
 have hC:=bby (l:=l) (p:=0)
 have hLl:=a8q (l:=l) (p:=0)
 have hq:(ctF l 0).1≤l.length:=awh (Nat.zero_le _) _
 generalize dq l 0=R at*
 generalize ctT l 0=T at*
 generalize ctF l 0=F at*
 obtain⟨q0,L⟩:=F
 dsimp only at c1 hC hLl hq
 rw[bu,fy]at c1
 obtain⟨q,hqd⟩: ∃q,q=dgo l q0 1:=⟨_,rfl⟩
 have e0:ady l q0=q:=hqd.symm
 have hq1:q≤l.length:=by rw[hqd];exact dx hq 1
 have hT8:T.ros.length≤8:=by omega
 have ct:=awv L turn (by omega)
 have hMl:(akv L turn).length≤262:=by simp only[akv,List.length_map,List.length_range];omega
 have hMc: ∀s∈akv L turn,CT s:=fun s hs=>hC s (aw0 hs)
 simp only[ub,r9]
 refine ax9 Tryz.mixed (by kernel_rfl) ?_
 simp only[go_sem]
 refine ax9 Tryz.mixed (by kernel_rfl) ?_
 simp only[go_sem]
 refine call (aez l) [] ?_
 simp only[go_sem,hd]
 refine ax9 Tryz.mixed (by kernel_rfl) ?_
 simp only[go_sem]
 refine call (bfo l) [] ?_
 simp only[go_sem]
 refine ax9 Tryz.mixed (by kernel_rfl) ?_
 simp only[go_sem]
 refine call c1 [29] ?_
 simp only[go_sem]
 refine ax9 Tryz.mixed (by kernel_rfl) ?_
 simp only[go_sem]
 refine call (bm l q0 9 hl hq (by omega)) [29] ?_
 simp only[go_sem,e0]
 generalize ai l q0 9=ky
 refine bcx Tryz.mixed (fun s:SuS=>[(2,.int .i64 turn),(8,.ptr 8 0),(9,.ptr 9 0),(10,.vs (L.map sm)),(11,.int .i64 ky)]) (fun s=>[(8,.cells (rl s.R)),(9,.cells [.int .i64 s.T.ep,s.V,.str s.T.bea,.bool s.T.dec,.vs (s.T.nx.li.map i1),.vs (s.T.nx.pi.map pn)])]) SuI (by kernel_rfl) ?_ ?_
 ·generalize hw:z.tmod 7=w
  by_cases w0:w=0
  ·simp only[go_sem,hw,w0]
   refine call (a3n l q R hl hq1) [29] ?_
   have hB2:=azv (l:=l) (p:=q) hB
   generalize (ac5 l q R).1=R2 at*
   simp only[go_sem]
   exact⟨⟨R2,T,.vs (T.ros.map i1)⟩,⟨hB2,hT8,.inl rfl⟩,by simp only[go_sem]⟩
  by_cases w1:w=1
  ·simp only[go_sem,hw,w0,w1]
   exact⟨⟨R,{T with ros:=[]},.nils⟩,⟨hB,by simp,.inr ⟨rfl,rfl⟩⟩,by simp only[go_sem]⟩
  by_cases w2:w=2
  ·simp only[go_sem,hw,w0,w1,w2]
   exact⟨⟨R,{T with bea:=[120]},.vs (T.ros.map i1)⟩,⟨hB,hT8,.inl rfl⟩,by simp only[go_sem]⟩
  by_cases w3:w=3
  ·simp only[go_sem,hw,w0,w1,w2,w3]
   refine call (qt l q [-1,1,40] hl hq1 (by simp) (by simp[big])) [29] ?_
   simp only[go_sem]
   exact⟨⟨R,{T with ep:=aly l q [-1,1,40]},.vs (T.ros.map i1)⟩,⟨hB,hT8,.inl rfl⟩,by simp only[go_sem];rfl⟩
  ·simp only[go_sem,hw,w0,w1,w2,w3]
   exact⟨⟨R,T,.vs (T.ros.map i1)⟩,⟨hB,hT8,.inl rfl⟩,by simp only[go_sem]⟩
 ·rintro⟨R,T,V⟩ ⟨hB,hTl,hV⟩
  dsimp only at hB hTl hV ⊢
  refine bcl (fun V=>[(8,.cells (rl R)),(9,.cells [.int .i64 T.ep,V,.str T.bea,.bool T.dec,.vs (T.nx.li.map i1),.vs (T.nx.pi.map pn)])]) 9 1 _ hV rfl rfl rfl ?_
  refine bge Tryz.mixed (by kernel_rfl) ?_
  generalize akv L turn=M at*
  have hLb: ∀s∈M,gx s:=fun s hs=>(bbi (hMc s hs)).2
  have hLp: ∀s∈M,plS s:=fun s hs=>(bbi (hMc s hs)).1
  have hcf:=bep hMc
  have hun:=bcc hMc
  have g1:=axn hcf hun
  have g2:=azp hcf hun
  have cG1:=z8 M (by omega) hLb hcf
  rw[g1]at cG1
  have hGl:(dh (gB M) 64).length≤64:=jj _ _
  have hbT:big T.ros.length:=by simp only[big];omega
  have a1:=awd R M T hB hbT (by omega) hLb hLp
  have a2:=rj R M T hB hbT (by omega) (by omega) hLb
  have a3:=azy R M T hB hbT (by omega) hLb hLp _ hGl cG1
  have a4:=ano R M T hB hbT (by omega) (by omega) hLb
  rw[g2]at a4
  have a5:=axa R M T ky hB hbT (by omega) hLb hLp
  have a6:=aqb R M T ky hB hbT (by omega) (by omega) hLb
  have e1:=jz (mn R M T).1 (mn R M T).1 (aha (by omega)) (aha (by omega))
  have e2:=jz (ajy R M T (dh (gB M) 64)).1 (ajy R M T (dh (gB M) 64)).1 (amo (by omega)) (amo (by omega))
  rw[decide_eq_true rfl]at e1 e2
  generalize mn R M T=A at*
  generalize ajy R M T (dh (gB M) 64)=U at*
  generalize acy R M T ky=Y at*
  obtain⟨A,ea⟩:=A
  obtain⟨U,eu⟩:=U
  obtain⟨Y,ey⟩:=Y
  dsimp only at a1 a2 a3 a4 a5 a6 e1 e2
  rw[bu,fy]at a1 a2 a3 a4 a5 a6
  have u4:Tryz.prog.underlying 4=some .bool:=by kernel_rfl
  simp only[go_sem]
  refine call ct [] ?_
  simp only[go_sem]
  refine call a1 [] ?_
  simp only[go_sem]
  refine call a2 [] ?_
  simp only[go_sem]
  refine call a3 [] ?_
  simp only[go_sem]
  refine call a4 [] ?_
  simp only[go_sem]
  refine call a5 [] ?_
  simp only[go_sem]
  refine call a6 [] ?_
  simp only[go_sem,u4]
  refine call e1 [] ?_
  simp only[go_sem]
  refine call e2 [] ?_
  simp only[go_sem]
  refine call xl [] ?_
  simp only[go_sem]
end Go.Proofs.Am
