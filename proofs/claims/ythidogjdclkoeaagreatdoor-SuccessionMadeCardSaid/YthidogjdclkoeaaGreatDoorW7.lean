/- W7. -/
import Derived.Test.YthidogjdclkoeaaGreatDoorWOne
set_option linter.unusedSimpArgs false
set_option linter.unusedVariables false
namespace Go.Proofs.Am
open Go Go.RowKit
open Go.Proofs
set_option maxHeartbeats 1000000 in
set_option maxRecDepth 100000 in
theorem aoh(l:List Int)(p:Nat)(hl:big l.length)(hp:p<=l.length):Den Tryz.prog 7 [.ptr 1000000 0] [q7 l p] (.tup [.agg (rl (fy l p)),.os 0 (tt l p).L.length]) [.arr 63 13 false ((tt l p).L.map sm)] [q7 l (tt l p).p]:=by
 refine aa Tryz.func7 rfl Tryz.call7 Tryz.ntmps7 Tryz.results7 (by simp) (by kernel_rfl) [210] (exts:=[1000000]) rfl rfl ?_;have hB:=zq l p;have c1:=anz l p hl hp;have c2:=vj (fy l p) (mt l p) hB.g hB.s hB.t;have hr:=mt l p;have i0:=af3 (l:=l) (p:=p) hp;have hX:tt l p=ae4 l (fy l p) 4 0 (zd l p):=rfl;have h0:zd l p=⟨dgo l p 8,[],(fy l p).gen,zo (fy l p)⟩:=rfl;generalize tt l p=X at*;generalize zd l p=s0 at*;generalize fy l p=r at*;rw[dz]at c1 c2;simp only[go_sem];refine call c1 [1000000] ?_;simp only[go_sem];refine call c2 [] ?_;simp only[go_sem];rw[<-dz r];refine dm 5 210 63 13 false ?_ ?_ ?_ (by omega)
 ·refine loop Tryz.mixed ((0:Nat),s0) (fun i:Nat×ChS=>[(0,.ptr 1000000 0),(2,.ptr 2 0),(4,.ptr 4 0),(5,.os 210 i.2.L.length),(6,.vs (i.2.ros.map i1)),(7,.str i.2.v),(9,.int .i64 i.1)]) (fun i=>[(1000000,q7 l i.2.p),(2,.cells [.nils,.nils,.nils,.int .i64 0,.int .i64 0,.int .i64 0,.int .i64 0]),(4,.cells (rl r)),(210,.arr 63 13 false (i.2.L.map sm))]) (fun i=>i.1<=3/\ChI l i.1 i.2/\ae4 l r (4 - i.1) i.1 i.2=X) (fun i=>4 - i.1) (by kernel_rfl) ⟨by omega,i0,hX.symm⟩ ?_ ?_
  ·subst h0;simp only[go_sem,List.map_nil,List.length_nil]
  ·rintro⟨ep,s⟩ ⟨he,hI,hR⟩;dsimp only at he hI hR ⊢;have hnx:=bh (l:=l) (p:=s.p) (n:=4) (by omega);have hsub:4 - ep=(3 - ep)+1:=by omega
   rw[hsub,ae4]at hR;have e0:aca l s.p=dgo l s.p 1:=rfl;have hp0:=hI.p;have hp1:=cy hp0 1;by_cases hlt:(ep:Int)<aj l s.p 4
   ·rw[if_pos hlt]at hR;have hI2:=aes hr (by omega) hI;have k1:=pg (ep:=(ep:Int)) (by omega) (by omega);have hS:=a65 hr (by omega) hI;have hln:=hI.len;have cO:=arx r s.v s.ros (b9 ep) (by have:=hB.g;simp only[big];omega) (by have:=hB.s;simp only[big];omega) (by have:=hB.t;simp only[big];omega) (by have:=(kz hI.ros).2.2.2;simp only[big];omega);rw[hS]at cO;have hSl:=ati hr ep s;have hv:=hI.v;rw[au4]at hI2 hR;have hC:cs (b9 (ep:Int))=[.int .i64 ep,.int .i64 1,.int .i64 0,.int .i64 0]:=rfl;have cR:=qy (ep:Int);have hC':cs ⟨(ep:Int),1,0,0⟩=[.int .i64 ep,.int .i64 1,.int .i64 0,.int .i64 0]:=rfl;rw[hC']at cR;have cX:=lk l (dgo l s.p 1) (b9 ep) hl hp1;have cY:=lk l (chX l ep s).2 (b9 ep) hl (g9 hp1 _);have sX:=oa l (dgo l s.p 1) (c:=b9 (ep:Int)) rfl;have oX:=iz l (dgo l s.p 1) (b9 (ep:Int));have oY:=iz l (chX l ep s).2 (b9 (ep:Int));have lY:=g9 (l:=l) (p:=(chX l ep s).2) (g9 hp1 _) (b9 (ep:Int));have hx:aq l (dgo l s.p 1) (b9 ep)=chX l ep s:=rfl;have hy:aq l (chX l ep s).2 (b9 ep)=chY l ep s:=rfl;rw[hx]at cX sX oX;rw[hy]at cY oY lY;have g0:adu l ep (chX l ep s).1 (chY l ep s).1 (chS r ep s) ((chY l ep s).2,s.L) 0=((chY l ep s).2,s.L):=rfl;have gS: ∀i,adu l ep (chX l ep s).1 (chY l ep s).1 (chS r ep s) ((chY l ep s).2,s.L) (i+1)=nw l ep (chX l ep s).1 (chY l ep s).1 (el (chS r ep s) i) (adu l ep (chX l ep s).1 (chY l ep s).1 (chS r ep s) ((chY l ep s).2,s.L) i):=fun i=>rfl
    have gK: ∀i,i<=(chS r ep s).length->(adu l ep (chX l ep s).1 (chY l ep s).1 (chS r ep s) ((chY l ep s).2,s.L) i).1<=l.length/\(adu l ep (chX l ep s).1 (chY l ep s).1 (chS r ep s) ((chY l ep s).2,s.L) i).2.length<=s.L.length+2*i:=fun i hi=>by
     induction i with
     |zero=>exact⟨lY,by rw[g0];simp⟩
     |succ i ih=>
      obtain⟨a1,a2⟩:=ih (by omega);rw[gS];refine⟨cy a1 1,?_⟩
      have: ∀st:Nat×List Stm,(nw l ep (chX l ep s).1 (chY l ep s).1 (el (chS r ep s) i) st).2.length<=st.2.length+2:=fun st=>by
       simp only[nw,List.length_append]
       (repeat' split)<;>simp
      have:=this (adu l ep (chX l ep s).1 (chY l ep s).1 (chS r ep s) ((chY l ep s).2,s.L) i);omega
    have gV: ∀st:Nat×List Stm,∀k,nw l ep (chX l ep s).1 (chY l ep s).1 k st=(dgo l st.1 1,st.2++(if aj l st.1 14=0 then []else if aj l st.1 14=1 then [vt k ep (b9 ep) (chY l ep s).1]else if aj l st.1 14=2 then [vt k ep (b9 ep) (chX l ep s).1,vt k (ep+9) (b9 ep) (chY l ep s).1]else [vt k ep (b9 ep) (chX l ep s).1])):=fun st k=>rfl;have cN:=me s.v ep (chX l ep s).1.li hv (by omega) (by omega) (by have:=sX.1;omega);have cD:=ll (chX l ep s).1.li (by have:=sX.1;simp only[big];omega);have hd0:(ut (chX l ep s).1.li).2=0:=by rw[gw sX.ok]
    have cv:=fun k nu=>uo k nu (b9 ep) (chX l ep s).1 oX;have cw:=fun k nu=>uo k nu (b9 ep) (chY l ep s).1 oY;generalize adu l ep (chX l ep s).1 (chY l ep s).1 (chS r ep s) ((chY l ep s).2,s.L)=G at*;clear hx hy hI hS lY sX;generalize nw l ep (chX l ep s).1 (chY l ep s).1=CV at*;generalize j3 s.v ep (chX l ep s).1.li=nv' at*;generalize hDD:ut (chX l ep s).1.li=DD at*;generalize chX l ep s=XX at*;generalize chY l ep s=YY at*;generalize chS r ep s=S at*;obtain⟨d1,d2⟩:=DD;obtain⟨x,q1⟩:=XX;obtain⟨y,q2⟩:=YY;simp only at hd0 hI2 hR cX cY cN cD cv cw g0 gS gK gV hDD;subst hd0;rw[hC]at cX cY cO cv cw;rw[il]at cX cY cv cw;rw[<-dz r]at*;simp only[go_sem];refine call (ax l s.p 4 hl hp0 (by omega)) [1000000] ?_;simp only[go_sem,hlt,e0];refine call cR [] ?_;simp only[go_sem];refine call cO [] ?_;simp only[go_sem];refine call cX [1000000] ?_;simp only[go_sem];refine call cY [1000000] ?_;simp only[go_sem];refine⟨ae (by kernel_rfl),?_⟩;refine loop Tryz.mixed (0:Nat) (fun i:Nat=>[(0,.ptr 1000000 0),(2,.ptr 2 0),(4,.ptr 4 0),(5,.os 210 (G i).2.length),(7,.str s.v),(9,.int .i64 ep),(10,.ptr 10 0),(11,.vs (S.map i1)),(13,.ptr 13 0),(14,.ptr 14 0),(15,.int .i64 i)]) (fun i=>[(1000000,q7 l (G i).1),(2,.cells [.nils,.nils,.nils,.int .i64 0,.int .i64 0,.int .i64 0,.int .i64 0]),(4,.cells (rl r)),(10,.cells [.int .i64 ep,.int .i64 1,.int .i64 0,.int .i64 0]),(13,.cells (ct x)),(14,.cells (ct y)),(210,.arr 63 13 false ((G i).2.map sm))]) (fun i=>i<=S.length) (fun i=>S.length - i) (by kernel_rfl) (Nat.zero_le _) ?_ ?_
    ·rw[g0];simp only[go_sem]
    ·intro i hi;obtain⟨a1,a2⟩:=gK i hi;by_cases hj:i<S.length
     ·have hjl:(i:Int)<(S.length:Int):=by omega
      have hst:=gS i;rw[gV]at hst;generalize G i=g at*;obtain⟨q,o⟩:=g;simp only at a1 a2 hst;have e1:aca l q=dgo l q 1:=rfl;have b14:=bh (l:=l) (p:=q) (n:=14) (by omega);simp only[go_sem,hjl];refine call (ax l q 14 hl a1 (by omega)) [1000000] ?_;by_cases n0:aj l q 14=0
      ·rw[if_pos n0,List.append_nil]at hst;simp only[go_sem,n0,e1];refine⟨i+1,⟨by omega,by omega⟩,?_⟩;rw[hst];exact⟨⟨rfl,by rw[ai]<;>omega⟩,rfl,rfl⟩
      rw[if_neg n0]at hst;by_cases n1:aj l q 14=1
      ·rw[if_pos n1]at hst;have cw:=cw (el S i) ep;generalize vt (el S i) ep (b9 ep) y=w at*;simp only[go_sem,n0,n1,e1,hj];refine call cw [] ?_;simp only[go_sem];refine⟨by omega,ae (by kernel_rfl),i+1,⟨by omega,by omega⟩,?_⟩;rw[hst];exact⟨⟨by simp,by rw[ai]<;>omega⟩,rfl,by rw[List.map_append];rfl⟩
      rw[if_neg n1]at hst;by_cases n2:aj l q 14=2
      ·rw[if_pos n2]at hst;have cv:=cv (el S i) ep;have cw:=cw (el S i) (ep+9);have w9:IntKind.i64.wrap ((ep:Int)+9)=(ep:Int)+9:=by rw[ai]<;>omega
       generalize vt (el S i) ep (b9 ep) x=v at*;generalize vt (el S i) (ep+9) (b9 ep) y=w at*;simp only[go_sem,n0,n1,n2,e1,hj];refine call cv [] ?_;simp only[go_sem,w9];refine⟨hj,call cw [] ?_⟩;simp only[go_sem];refine⟨by omega,ae (by kernel_rfl),i+1,⟨by omega,by omega⟩,?_⟩;rw[hst];exact⟨⟨by simp,by rw[ai]<;>omega⟩,rfl,by rw[List.map_append];rfl⟩
      rw[if_neg n2]at hst;have cv:=cv (el S i) ep;generalize vt (el S i) ep (b9 ep) x=v at*;simp only[go_sem,n0,n1,n2,e1,hj];refine call cv [] ?_;simp only[go_sem];refine⟨by omega,ae (by kernel_rfl),i+1,⟨by omega,by omega⟩,?_⟩;rw[hst];exact⟨⟨by simp,by rw[ai]<;>omega⟩,rfl,by rw[List.map_append];rfl⟩
     ·have:i=S.length:=by omega
      subst this;have hjl: ¬(S.length:Int)<(S.length:Int):=by omega
      generalize G S.length=g at*;obtain⟨q,o⟩:=g;simp only at hI2 hR;simp only[go_sem,hjl];refine call cD [] ?_;simp only[go_sem];refine call cN [] ?_;simp only[go_sem];refine⟨(ep+1,⟨q,o,d1,nv'⟩),⟨⟨by show ep+1<=3;omega,hI2,?_⟩,by show 4 - (ep+1)<4 - ep;omega⟩,⟨rfl,rfl,rfl,by show _=((ep+1:Nat):Int);rw[ai]<;>omega⟩,rfl,rfl⟩;rw[<-hR];show ae4 l r (4 - (ep+1)) (ep+1) _=_;rw[show 4 - (ep+1)=3 - ep by omega]
   ·rw[if_neg hlt]at hR;subst hR;simp only[go_sem];refine call (ax l s.p 4 hl hI.p (by omega)) [1000000] ?_;simp only[go_sem,hlt,e0]
    done
 ·simp only[go_sem]
 ·simp only[go_sem]
end Go.Proofs.Am
