/- PThree. -/
import Derived.Test.YteakcpfdfglndaaGreatDoorPOne
import Derived.Test.YteakcpfdfglndaaGreatDoorPTwo
import Derived.Test.YteakcpfdfglndaaGreatDoorUFour
import Derived.Test.YteakcpfdfglndaaGreatDoorQTwo
set_option linter.unusedSimpArgs false
set_option linter.unusedVariables false
namespace Go.Proofs.Am
open Go Go.RowKit
open Go.Proofs
theorem al5{r:Rl}{L:List Stm}{t:Tm}{kd k:Int}(h:oe r L t kd k=true):
  ((fh r L t (iv t kd k)).2.1=true∧(fh r L t (iv t kd k)).1.li=[1])∨((fh r L t (l8 (iv t kd k))).2.1=true∧(fh r L t (l8 (iv t kd k))).1.li=[1]∧(fh r L t (l8 (iv t kd k))).2.2=0):=by
 unfold oe at h
 rw[Bool.and_eq_true]at h
 obtain⟨h1,h2⟩:=h
 have h2:=of_decide_eq_true h2
 unfold aax at h1 h2
 split at h1
 ·rename_i hc
  rw[if_pos hc]at h2
  split at h1
  ·cases h1
  ·rename_i h0
   rw[if_neg h0]at h2
   split at h1
   ·rename_i hs
    rw[if_pos hs]at h2
    unfold aht at hs h2
    split at hs
    ·rename_i hh
     rw[if_pos hh]at h2
     exact .inr ⟨hs,h2,hh.2⟩
    ·cases hs
   ·rename_i hs
    rw[if_neg hs]at h2
    exact .inl ⟨h1,h2⟩
 ·cases h1
theorem ay5{r:Rl}{L:List Stm}{t:Tm}{G:List Int}(hr:d6 r=0)(ht:OkT t){k:Int}(h:k∈az5 r L t G):k∈t.ros∧k∈G∧(k∈jo r L t→¬(t.ros.length:Int)≤r.seats):=by
 unfold az5 at h
 obtain⟨h1,h2⟩:=List.mem_filter.1 h
 rw[Bool.and_eq_true]at h2
 obtain⟨h2,h3⟩:=h2
 refine⟨h1,of_decide_eq_true h2,fun hs hl=> ?_⟩
 rcases al5 (mc.1 hs).2 with ⟨w,_⟩|⟨w,_,_⟩
 ·rw[w]at h3;cases h3
 ·obtain⟨_,hrng,_,_⟩:=jf ht.ros
  have ho:m5 (iv t 3 k)=true:=aeu.2 ⟨jl ⟨ht.lo,ht.hi,(hrng k h1).1,(hrng k h1).2,by simp[iv],by simp[iv],.inr (.inr rfl)⟩,rfl,by show(3:Int)≠1;omega⟩
  have hn:=ai0 hr ht ho rfl hl
  unfold fh at w
  rw[hn,if_pos (by simp)]at w
  cases w
set_option maxHeartbeats 1000000 in
set_option maxRecDepth 100000 in
theorem aj2(l:List Int):Den Tryz.prog 4 [.vs (l.map i1)] [] (.bool true) [] []:=by
 refine ac Tryz.mixed Tryz.func4 rfl Tryz.call4 Tryz.ntmps4 (congrArg Array.toList Tryz.results4) (by simp) (by kernel_rfl) [] (exts:=[]) rfl rfl ?_
 by_cases h400:l.length≤400
 rotate_left
 ·have hd:decide (l.length≤400)=false:=decide_eq_false h400
  simp only[go_sem]
  refine call (afd l) [] ?_
  simp only[go_sem,hd]
  refine call wa [] ?_
  simp only[go_sem]
 have hd:decide (l.length≤400)=true:=decide_eq_true h400
 have hl:big l.length:=by simp only[big];omega
 have c1:=atd l 0 hl (Nat.zero_le _)
 have hB:RlB (dc l 0):=apy l 0
 have hr:=we l 0
 have hT:=a2y (l:=l) (p:=0)
 have hTl:=aqt (l:=l) (p:=0)
 have hTe:(ctT l 0).ep=0:=rfl
 have hC:=bbn (l:=l) (p:=0)
 have hLl:=a6r (l:=l) (p:=0)
 generalize dc l 0=R at*
 generalize ctT l 0=T at*
 generalize ctF l 0=F at*
 obtain⟨q,L⟩:=F
 dsimp only at c1 hC hLl
 have hLb: ∀s∈L,jm s:=fun s hs=>(a96 (hC s hs)).2
 have hLp: ∀s∈L,plS s:=fun s hs=>(a96 (hC s hs)).1
 have hcf:=bdd hC
 have hun:=bag hC
 have g1:=awm hcf hun
 have g2:=a1y hcf hun
 have cG1:=aad L (by omega) hLb hcf
 have cG2:=ae7 L (by omega) hLb
 rw[g1]at cG1
 rw[g2]at cG2
 have hGl:(db (gB L) 64).length≤64:=kr _ _
 generalize db (gB L) 64=G at*
 clear g1 g2
 have cS:=qk R L T hr hT hB (by omega) hLb hLp
 have cD:=avg R L T hr hT hB (by omega) hLb hLp G hGl cG1
 have cY:=fun k=>afm R L T k hr hT hB (by omega) hLb hLp
 have w1:=fun k (h:k∈jo R L T)=>al5 (mc.1 h).2
 have w2:=fun k (h:k∈jo R L T)=>(mc.1 h).1
 have w3:=fun k (h:k∈az5 R L T G)=>ay5 hr hT h
 have hAl:(jo R L T).length≤64:=Nat.le_trans (List.length_filter_le _ _) (by omega)
 have hUl:(az5 R L T G).length≤64:=Nat.le_trans (List.length_filter_le _ _) (by omega)
 have hbT:big T.ros.length:=by simp only[big];omega
 have d1:=fun k=>alh R L T (iv T 3 k) hB hbT (by omega) hLb
 have d2:=fun k=>alh R L T (l8 (iv T 3 k)) hB hbT (by omega) hLb
 have b1:=fun k=>decG_big (r:=R) (L:=L) (t:=T) (c:=iv T 3 k)
 have b2:=fun k=>decG_big (r:=R) (L:=L) (t:=T) (c:=l8 (iv T 3 k))
 have u4:Tryz.prog.underlying 4=some .bool:=by kernel_rfl
 simp only[fk,lk,bf,iu]at c1 cS cD cY d1 d2
 generalize jo R L T=A at*
 generalize az5 R L T G=U at*
 simp only[go_sem]
 refine call (afd l) [] ?_
 simp only[go_sem,hd]
 refine call (bcg l) [] ?_
 simp only[go_sem]
 refine call c1 [29] ?_
 simp only[go_sem]
 refine call cS [] ?_
 simp only[go_sem]
 refine call cD [] ?_
 simp only[go_sem]
 refine call cG2 [] ?_
 simp only[go_sem]
 refine loop Tryz.mixed (0:Nat) (fun i:Nat=>[(4,.ptr 4 0),(5,.ptr 5 0),(6,.vs (L.map sm)),(7,.vs (A.map i1)),(9,.vs (U.map i1)),(11,.vs (G.map i1)),(12,.int .i64 i)]) (fun i=>[(4,.cells (rl R)),(5,.cells (tm T))]) (fun i=>i≤A.length) (fun i=>A.length - i) (by kernel_rfl) (Nat.zero_le _) ?_ ?_
 ·simp only[go_sem]
  done
 ·intro i hi
  by_cases h:i<A.length
  ·have hlt:(i:Int)<(A.length:Int):=by omega
   have hk:=ar h
   have w1:=w1 _ hk
   have w2:=w2 _ hk
   have d1:=d1 (el A i)
   have d2:=d2 (el A i)
   have b1:=b1 (el A i)
   have b2:=b2 (el A i)
   have ch:=ww T.ros (el A i) hbT
   rw[decide_eq_true w2]at ch
   generalize fh R L T (iv T 3 (el A i))=O1 at*
   generalize fh R L T (l8 (iv T 3 (el A i)))=O2 at*
   obtain⟨x,f1,e1⟩:=O1
   obtain⟨y,f2,e2⟩:=O2
   dsimp only at d1 d2 w1 b1 b2
   simp only[iv,l8,hTe]at d1 d2
   have cx:=mf x.li [1] b1.1 (by simp[big])
   have cy:=mf y.li [1] b2.1 (by simp[big])
   simp only[go_sem,hlt,h]
   refine call d1 [] ?_
   simp only[go_sem]
   refine⟨hTe,call d2 [] ?_⟩
   simp only[go_sem,hlt,h]
   refine⟨hTe,call ch [] ?_⟩
   have fin:IntKind.i64.wrap ((i:Int)+1)=((i+1:Nat):Int):=by rw[ae]<;>omega
   cases f1
   ·have hy:f2=true∧y.li=[1]:=by
     rcases w1 with ⟨h1,_⟩|⟨h1,h2,_⟩
     ·cases h1
     ·exact⟨h1,h2⟩
    obtain⟨rfl,hy1⟩:=hy
    rw[decide_eq_true hy1]at cy
    simp only[go_sem]
    refine call cy [] ?_
    simp only[go_sem]
    exact⟨aa (by kernel_rfl),i+1,⟨by omega,by omega⟩,fin⟩
   ·cases hx:decide (x.li=[1])
    ·have hy:f2=true∧y.li=[1]:=by
      rcases w1 with ⟨_,h2⟩|⟨h1,h2,_⟩
      ·exact absurd h2 (of_decide_eq_false hx)
      ·exact⟨h1,h2⟩
     obtain⟨rfl,hy1⟩:=hy
     rw[decide_eq_true hy1]at cy
     rw[hx]at cx
     simp only[go_sem]
     refine call cx [] ?_
     simp only[go_sem]
     refine call cy [] ?_
     simp only[go_sem]
     exact⟨aa (by kernel_rfl),i+1,⟨by omega,by omega⟩,fin⟩
    ·rw[hx]at cx
     simp only[go_sem]
     refine call cx [] ?_
     simp only[go_sem]
     exact⟨aa (by kernel_rfl),i+1,⟨by omega,by omega⟩,fin⟩
  ·have hlt: ¬(i:Int)<(A.length:Int):=by omega
   simp only[go_sem,hlt]
   clear hlt hi d1 d2 b1 b2 w1
   refine loop Tryz.mixed (0:Nat) (fun i:Nat=>[(4,.ptr 4 0),(5,.ptr 5 0),(6,.vs (L.map sm)),(7,.vs (A.map i1)),(9,.vs (U.map i1)),(11,.vs (G.map i1)),(20,.int .i64 i)]) (fun i=>[(4,.cells (rl R)),(5,.cells (tm T))]) (fun i=>i≤U.length) (fun i=>U.length - i) (by kernel_rfl) (Nat.zero_le _) ?_ ?_
   ·simp only[go_sem]
    done
   ·intro i hi
    by_cases h:i<U.length
    ·have hlt:(i:Int)<(U.length:Int):=by omega
     obtain⟨k1,k2,k3⟩:=w3 _ (ar h)
     have ch1:=ww T.ros (el U i) hbT
     have ch2:=ww G (el U i) (by simp only[big];omega)
     have ch3:=ww A (el U i) (by simp only[big];omega)
     rw[decide_eq_true k1]at ch1
     rw[decide_eq_true k2]at ch2
     have fin:IntKind.i64.wrap ((i:Int)+1)=((i+1:Nat):Int):=by rw[ae]<;>omega
     by_cases hA:el U i∈A
     ·have k3:=k3 hA
      rw[decide_eq_true hA]at ch3
      simp only[go_sem,hlt,h]
      refine call ch1 [] ?_
      simp only[go_sem,hlt,h]
      refine call ch2 [] ?_
      simp only[go_sem,hlt,h]
      refine call ch3 [] ?_
      simp only[go_sem,k3]
      exact⟨aa (by kernel_rfl),i+1,⟨by omega,by omega⟩,fin⟩
     ·rw[decide_eq_false hA]at ch3
      simp only[go_sem,hlt,h]
      refine call ch1 [] ?_
      simp only[go_sem,hlt,h]
      refine call ch2 [] ?_
      simp only[go_sem,hlt,h]
      refine call ch3 [] ?_
      simp only[go_sem]
      exact⟨aa (by kernel_rfl),i+1,⟨by omega,by omega⟩,fin⟩
    ·have hlt: ¬(i:Int)<(U.length:Int):=by omega
     simp only[go_sem,hlt]
     clear hlt hi
     refine loop Tryz.mixed (0:Nat) (fun i:Nat=>[(4,.ptr 4 0),(5,.ptr 5 0),(6,.vs (L.map sm)),(7,.vs (A.map i1)),(21,.int .i64 i)]) (fun i=>[(4,.cells (rl R)),(5,.cells (tm T))]) (fun i=>i≤T.ros.length) (fun i=>T.ros.length - i) (by kernel_rfl) (Nat.zero_le _) ?_ ?_
     ·simp only[go_sem]
      done
     ·intro i hi
      by_cases h:i<T.ros.length
      ·have hlt:(i:Int)<(T.ros.length:Int):=by omega
       have hk:=ar h
       have cY:=cY (el T.ros i)
       have ch3:=ww A (el T.ros i) (by simp only[big];omega)
       rw[decide_eq_true hk,Bool.true_and]at cY
       have fin:IntKind.i64.wrap ((i:Int)+1)=((i+1:Nat):Int):=by rw[ae]<;>omega
       simp only[go_sem,hlt,h]
       refine call cY [] ?_
       cases hd:decide (el T.ros i∈A)
       ·rw[hd]at ch3
        simp only[go_sem,hlt,h]
        refine⟨aa (by kernel_rfl),call ch3 [] ?_⟩
        simp only[go_sem,u4]
        exact⟨i+1,⟨by omega,by omega⟩,fin⟩
       ·rw[hd]at ch3
        simp only[go_sem,hlt,h]
        refine⟨aa (by kernel_rfl),call ch3 [] ?_⟩
        simp only[go_sem,u4]
        exact⟨i+1,⟨by omega,by omega⟩,fin⟩
      ·have hlt: ¬(i:Int)<(T.ros.length:Int):=by omega
       simp only[go_sem,hlt]
       refine call wa [] ?_
       simp only[go_sem]
       done
end Go.Proofs.Am
