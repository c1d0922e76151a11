/- CThree. -/
import Derived.Test.YteakcpfdfglndaaGreatDoorCOne
set_option maxHeartbeats 1000000
set_option maxRecDepth 100000
set_option linter.unusedSimpArgs false
set_option linter.unusedVariables false
namespace Go.Proofs.Am
open Go Go.RowKit
open Go.Proofs
theorem mr(x m:Int):Den Tryz.prog 138 [.int .i64 x,.int .i64 m] [] (.bool (inB x 0 m)) [] []:=by
 refine ac Tryz.mixed Tryz.func138 rfl Tryz.call138 Tryz.ntmps138 (congrArg Array.toList Tryz.results138) (by simp) (by kernel_rfl) [] (exts:=[]) rfl rfl ?_
 by_cases h:0≤x
 ·simp only[go_sem,h,inB]
 ·simp only[go_sem,h,inB]
theorem acb(x:Int):Den Tryz.prog 137 [.int .i64 x] [] (.bool (inB x 0 63)) [] []:=by
 refine ac Tryz.mixed Tryz.func137 rfl Tryz.call137 Tryz.ntmps137 (congrArg Array.toList Tryz.results137) (by simp) (by kernel_rfl) [] (exts:=[]) rfl rfl ?_
 by_cases h:0≤x
 ·by_cases h':x<64
  ·have:inB x 0 63=true:=decide_eq_true (by omega)
   simp only[go_sem,h,h',this]
  ·have:inB x 0 63=false:=decide_eq_false (by omega)
   simp only[go_sem,h,h',this]
 ·have:inB x 0 63=false:=decide_eq_false (by omega)
  simp only[go_sem,h,this]
theorem an1(l:List Pn)(hl:big l.length):Den Tryz.prog 140 [.vs (l.map pn)] [] (.bool (jn l)) [] []:=by
 refine ac Tryz.mixed Tryz.func140 rfl Tryz.call140 Tryz.ntmps140 (congrArg Array.toList Tryz.results140) (by simp) (by kernel_rfl) [] (exts:=[]) rfl rfl ?_
 simp only[go_sem]
 refine loop Tryz.mixed 0 (fun i:Nat=>[(0,.vs (l.map pn)),(3,.int .i64 i)]) (fun i=>[]) (fun i=>i≤l.length∧∀j,j<i→lw l j=true) (fun i=>l.length - i) (by kernel_rfl) ?_ ?_ ?_
 ·simp
 ·simp only[go_sem]
 ·rintro i ⟨hi,hp⟩
  by_cases hi':i<l.length
  ·have hlt:(i:Int)<(l.length:Int):=by omega
   simp only[go_sem,hlt,hi']
   refine call (acb (el l i).au) [] ?_
   cases e1:inB (el l i).au 0 63
   ·have hq:lw l i=false:=by simp[lw,e1]
    simp only[go_sem]
    exact⟨aa (by kernel_rfl),(bj hi' hq).symm⟩
   ·have tail: ∀(_:(decide (0<i)&&decide ((el l i).au≤(el l (i - 1)).au))=false),∀b,b=(inB (el l i).he 1 200&&decide ((el l i).di.length=32))→lw l i=b:=fun h b hb=>by
     rw[hb,lw,e1,h];simp
    by_cases e2:0<i
    ·have e2':(0:Int)<(i:Int):=by omega
     have e3:IntKind.i64.wrap ((i:Int) - 1)=((i - 1:Nat):Int):=by rw[ae]<;>omega
     have e4:i - 1<l.length:=by omega
     by_cases e5:(el l i).au≤(el l (i - 1)).au
     ·have hq:lw l i=false:=by simp[lw,e1,e2,e5]
      simp only[go_sem,e2',e3,e4,e5]
      exact⟨aa (by kernel_rfl),(bj hi' hq).symm⟩
     have tail:=tail (by simp[e5])
     by_cases e6:(el l i).he<1
     ·have hq:=tail false (by rw[inB,decide_eq_false (by omega)];rfl)
      simp only[go_sem,e2',e3,e4,e5,e6]
      exact⟨aa (by kernel_rfl),(bj hi' hq).symm⟩
     by_cases e6':200<(el l i).he
     ·have hq:=tail false (by rw[inB,decide_eq_false (by omega)];rfl)
      simp only[go_sem,e2',e3,e4,e5,e6,e6']
      exact⟨aa (by kernel_rfl),(bj hi' hq).symm⟩
     have e66:inB (el l i).he 1 200=true:=decide_eq_true (by omega)
     by_cases e7:(el l i).di.length=32
     ·have hq:=tail true (by simp[e66,e7])
      have e7':((el l i).di.length:Int)=32:=by omega
      simp only[go_sem,e2',e3,e4,e5,e6,e6',e7']
      refine⟨aa (by kernel_rfl),i+1,⟨⟨by omega,fun j hj=> ?_⟩,by omega⟩,by rw[ae]<;>omega⟩
      by_cases hji:j=i
      ·rw[hji];exact hq
      ·exact hp j (by omega)
     ·have hq:=tail false (by simp[e7])
      have e7': ¬((el l i).di.length:Int)=32:=by omega
      simp only[go_sem,e2',e3,e4,e5,e6,e6',e7']
      exact⟨aa (by kernel_rfl),(bj hi' hq).symm⟩
    ·have e2': ¬(0:Int)<(i:Int):=by omega
     have tail:=tail (by simp[e2])
     by_cases e6:(el l i).he<1
     ·have hq:=tail false (by rw[inB,decide_eq_false (by omega)];rfl)
      simp only[go_sem,e2',e6]
      exact⟨aa (by kernel_rfl),(bj hi' hq).symm⟩
     by_cases e6':200<(el l i).he
     ·have hq:=tail false (by rw[inB,decide_eq_false (by omega)];rfl)
      simp only[go_sem,e2',e6,e6']
      exact⟨aa (by kernel_rfl),(bj hi' hq).symm⟩
     have e66:inB (el l i).he 1 200=true:=decide_eq_true (by omega)
     by_cases e7:(el l i).di.length=32
     ·have hq:=tail true (by simp[e66,e7])
      have e7':((el l i).di.length:Int)=32:=by omega
      simp only[go_sem,e2',e6,e6',e7']
      refine⟨aa (by kernel_rfl),i+1,⟨⟨by omega,fun j hj=> ?_⟩,by omega⟩,by rw[ae]<;>omega⟩
      by_cases hji:j=i
      ·rw[hji];exact hq
      ·exact hp j (by omega)
     ·have hq:=tail false (by simp[e7])
      have e7': ¬((el l i).di.length:Int)=32:=by omega
      simp only[go_sem,e2',e6,e6',e7']
      exact⟨aa (by kernel_rfl),(bj hi' hq).symm⟩
  ·have hf: ¬((i:Int)<(l.length:Int)):=by omega
   have:i=l.length:=by omega
   subst this
   simp only[go_sem,hf]
   exact(zp hp).symm
def qf(s:Stm):Bool:=inB s.nu 0 199&&(gm s.a&&(gm s.b&&(gm s.c&&(!(s.li.any fun x=> !gm x)&&dx s))))
theorem a9w{l:List Int}{p:Int→Bool}{i:Nat}(hi:i<l.length)(h:p (el l i)=true):l.any p=true:=List.any_eq_true.2 ⟨_,f7 hi,h⟩
theorem a9u{l:List Int}{p:Int→Bool}(h: ∀j,j<l.length→p (el l j)=false):l.any p=false:=by
 rw[List.any_eq_false]
 intro x hx
 obtain⟨j,hj,rfl⟩:=u7 hx
 rw[h j hj];simp
theorem aa2(x:Int):inB x 0 1099511627776=gm x:=rfl
theorem aer(s:Stm)(hl:big s.li.length):Den Tryz.prog 139 [.agg (sm s)] [] (.bool (qf s)) [] []:=by
 refine ac Tryz.mixed Tryz.func139 rfl Tryz.call139 Tryz.ntmps139 (congrArg Array.toList Tryz.results139) (by simp) (by kernel_rfl) [] (exts:=[]) rfl rfl ?_
 generalize hm:qf s=m
 simp only[go_sem]
 refine call (mr s.nu 199) [] ?_
 cases e1:inB s.nu 0 199
 ·simp only[go_sem]
  rw[←hm];simp[qf,e1]
 simp only[go_sem]
 refine call (mr s.a 1099511627776) [] ?_
 rw[aa2]
 cases e2:gm s.a
 ·simp only[go_sem]
  rw[←hm];simp[qf,e1,e2]
 simp only[go_sem]
 refine call (mr s.b 1099511627776) [] ?_
 rw[aa2]
 cases e3:gm s.b
 ·simp only[go_sem]
  rw[←hm];simp[qf,e1,e2,e3]
 simp only[go_sem]
 refine call (mr s.c 1099511627776) [] ?_
 rw[aa2]
 cases e4:gm s.c
 ·simp only[go_sem]
  rw[←hm];simp[qf,e1,e2,e3,e4]
 simp only[go_sem]
 refine loop Tryz.mixed 0 (fun i:Nat=>[(1,.ptr 1 0),(3,.int .i64 i)]) (fun i=>[(1,.cells (sm s))]) (fun i=>i≤s.li.length∧∀j,j<i→gm (el s.li j)=true) (fun i=>s.li.length - i) (by kernel_rfl) ?_ ?_ ?_
 ·simp
 ·simp only[go_sem]
 ·rintro i ⟨hi,hp⟩
  by_cases hi':i<s.li.length
  ·have hlt:(i:Int)<(s.li.length:Int):=by omega
   simp only[go_sem,hlt,hi']
   refine call (mr (el s.li i) 1099511627776) [] ?_
   rw[aa2]
   cases e5:gm (el s.li i)
   ·have:=a9w (p:=fun x=> !gm x) hi' (by simp[e5])
    simp only[go_sem]
    rw[←hm];simp only[qf,e1,e2,e3,e4,this];simp
   ·simp only[go_sem]
    refine⟨i+1,⟨⟨by omega,fun j hj=> ?_⟩,by omega⟩,by rw[ae]<;>omega⟩
    by_cases hji:j=i
    ·rw[hji];exact e5
    ·exact hp j (by omega)
  ·have hf: ¬((i:Int)<(s.li.length:Int)):=by omega
   have:i=s.li.length:=by omega
   subst this
   have e5:=a9u (l:=s.li) (p:=fun x=> !gm x) fun j hj=>by simp[hp j hj]
   have hm:dx s=m:=by rw[←hm];simp only[qf,e1,e2,e3,e4,e5];simp
   clear hp
   by_cases k1:s.kd=1
   ·have hmm:dx s=(inB s.a 0 63&&decide (s.a≠s.au)&&inB s.b 1 3&&inB s.c s.ti 2147483648):=if_pos k1
    rw[hmm]at hm
    clear hmm
    simp only[go_sem,hf,k1]
    refine call (acb s.a) [] ?_
    cases f1:inB s.a 0 63
    ·rw[f1]at hm
     simp only[go_sem]
     rw[←hm];simp
    rw[f1]at hm
    by_cases f2:s.a=s.au
    ·simp only[go_sem,f2]
     rw[←hm];simp[f2]
    by_cases f3:1≤s.b
    rotate_left
    ·have:inB s.b 1 3=false:=decide_eq_false (by omega)
     simp only[go_sem,f2,f3]
     rw[←hm];simp[this]
    by_cases f4:s.b≤3
    rotate_left
    ·have:inB s.b 1 3=false:=decide_eq_false (by omega)
     simp only[go_sem,f2,f3,f4]
     rw[←hm];simp[this]
    have h5:inB s.b 1 3=true:=decide_eq_true (by omega)
    by_cases f5:s.ti≤s.c
    rotate_left
    ·have:inB s.c s.ti 2147483648=false:=decide_eq_false (by omega)
     simp only[go_sem,f2,f3,f4,f5]
     rw[←hm];simp[this]
    by_cases f6:s.c≤2147483648
    ·have:inB s.c s.ti 2147483648=true:=decide_eq_true (by omega)
     simp only[go_sem,f2,f3,f4,f5,f6]
     rw[←hm];simp[this,h5,f2]
    ·have:inB s.c s.ti 2147483648=false:=decide_eq_false (by omega)
     simp only[go_sem,f2,f3,f4,f5,f6]
     rw[←hm];simp[this]
   by_cases k2:s.kd=2
   ·have hmm:dx s=(inB s.a 0 199&&decide (s.b=0)&&decide (s.c=0)):=by rw[dx,if_neg k1,if_pos k2]
    rw[hmm]at hm
    clear hmm
    simp only[go_sem,hf,k1,k2]
    refine call (mr s.a 199) [] ?_
    cases f1:inB s.a 0 199
    ·rw[f1]at hm
     simp only[go_sem]
     rw[←hm];simp
    rw[f1]at hm
    by_cases f2:s.b=0
    ·simp only[go_sem,f2]
     rw[←hm];simp[f2]
    ·simp only[go_sem,f2]
     rw[←hm];simp[f2]
   by_cases k3:s.kd=3
   ·have hmm:dx s=(decide (s.a=0)&&decide (s.b=0)&&decide (s.c=0)):=by rw[dx,if_neg k1,if_neg k2,if_pos k3]
    rw[hmm]at hm
    clear hmm
    by_cases f1:s.a=0
    ·by_cases f2:s.b=0
     ·simp only[go_sem,hf,k1,k2,k3,f1,f2]
      rw[←hm];simp[f1,f2]
     ·simp only[go_sem,hf,k1,k2,k3,f1,f2]
      rw[←hm];simp[f2]
    ·simp only[go_sem,hf,k1,k2,k3,f1]
     rw[←hm];simp[f1]
   ·have hmm:dx s=true:=by rw[dx,if_neg k1,if_neg k2,if_neg k3]
    simp only[go_sem,hf,k1,k2,k3]
    rw[←hm];exact hmm.symm
theorem a29{s:Stm}(h:qf s=true):(!inB s.nu 0 199|| !gm s.a|| !gm s.b|| !gm s.c|| !dx s||s.li.any fun x=> !gm x)=false:=by
 simp only[qf,Bool.and_eq_true,Bool.not_eq_true']at h
 obtain⟨h1,h2,h3,h4,h5,h6⟩:=h
 simp only[h1,h2,h3,h4,h5,h6];rfl
theorem a26{s:Stm}(h:qf s=false):(!inB s.nu 0 199|| !gm s.a|| !gm s.b|| !gm s.c|| !dx s||s.li.any fun x=> !gm x)=true:=by
 cases hh:(!inB s.nu 0 199|| !gm s.a|| !gm s.b|| !gm s.c|| !dx s||s.li.any fun x=> !gm x)with
 |true=>rfl
 |false=>
  simp only[Bool.or_eq_false_iff,Bool.not_eq_false']at hh
  obtain⟨⟨⟨⟨⟨h1,h2⟩,h3⟩,h4⟩,h5⟩,h6⟩:=hh
  rw[qf,h1,h2,h3,h4,h5,h6]at h
  cases h
theorem o0(s:Stm)(hs:jm s):Den Tryz.prog 100 [.agg (sm s)] [] (.int .i64 (ah s)) [] []:=by
 obtain⟨hbl,hbp⟩:=hs
 refine ac Tryz.mixed Tryz.func100 rfl Tryz.call100 Tryz.ntmps100 (congrArg Array.toList Tryz.results100) (by simp) (by kernel_rfl) [] (exts:=[]) rfl rfl ?_
 generalize hm:ah s=m
 have cn:=aer s hbl
 rw[k9]at cn
 have cp:=an1 s.pins hbp
 simp only[go_sem]
 refine call (acb s.au) [] ?_
 cases e1:inB s.au 0 63
 ·simp only[go_sem]
  rw[←hm];simp only[ah,e1];rfl
 by_cases k1:s.kd<1
 ·have ek:(!inB s.kd 1 3&& !inB s.kd 10 31)=true:=by rw[inB,inB,decide_eq_false (by omega),decide_eq_false (by omega)];rfl
  simp only[go_sem,k1]
  rw[←hm];simp only[ah,e1,ek];rfl
 by_cases kk:s.kd≤3
 ·have k2: ¬3<s.kd:=by omega
  have k4: ¬31<s.kd:=by omega
  have ek:(!inB s.kd 1 3&& !inB s.kd 10 31)=false:=by rw[inB,decide_eq_true (by omega)];rfl
  simp only[go_sem,k1,k2,k4,kk]
  refine call (mr s.ti 2147483648) [] ?_
  cases e4:inB s.ti 0 2147483648
  ·simp only[go_sem]
   rw[←hm];simp[ah,e1,ek,e4]
  simp only[go_sem]
  refine call cn [] ?_
  cases e5:qf s
  ·have e5':=a26 e5
   simp only[go_sem]
   rw[←hm];simp only[ah,e1,ek,e4,e5'];rfl
  have e5':=a29 e5
  by_cases l1:(64:Int)<(s.li.length:Int)
  ·have elen:(decide (64<s.li.length)||decide (64<s.pins.length)||decide (4096<s.body.length))=true:=by simp;omega
   simp only[go_sem,l1]
   rw[←hm];simp only[ah,e1,ek,e4,e5',elen];rfl
  by_cases l2:(64:Int)<(s.pins.length:Int)
  ·have elen:(decide (64<s.li.length)||decide (64<s.pins.length)||decide (4096<s.body.length))=true:=by simp;omega
   simp only[go_sem,l1,l2]
   rw[←hm];simp only[ah,e1,ek,e4,e5',elen];rfl
  by_cases l3:(4096:Int)<(s.body.length:Int)
  ·have elen:(decide (64<s.li.length)||decide (64<s.pins.length)||decide (4096<s.body.length))=true:=by simp;omega
   simp only[go_sem,l1,l2,l3]
   rw[←hm];simp only[ah,e1,ek,e4,e5',elen];rfl
  have elen:(decide (64<s.li.length)||decide (64<s.pins.length)||decide (4096<s.body.length))=false:=by simp;omega
  have hm:(if((decide (s.nu=0)&&decide (s.prev≠[]))||(decide (0<s.nu)&&decide (s.prev.length≠32))|| !jn s.pins||(decide (s.kd≤3)&&decide (0<s.li.length+s.pins.length+s.body.length)))=true then 1
   else(0:Int))=m:=by rw[←hm];simp only[ah,e1,ek,e4,e5',elen];rfl
  by_cases n0:s.nu=0
  ·by_cases n1:s.prev=[]
   ·skip
    simp only[go_sem,l1,l2,l3,n0,n1]
    refine call cp [] ?_
    cases e14:jn s.pins
    ·simp only[go_sem]
     rw[←hm];simp[e14]
    by_cases g1:(0:Int)<(s.li.length:Int)
    ·simp only[go_sem,kk,g1]
     rw[if_pos (by simp[kk];omega)]at hm
     exact hm
    by_cases g2:(0:Int)<(s.pins.length:Int)
    ·simp only[go_sem,kk,g1,g2]
     rw[if_pos (by simp[kk];omega)]at hm
     exact hm
    by_cases g3:s.body=[]
    ·simp only[go_sem,kk,g1,g2,g3]
     have g4:s.body.length=0:=by rw[g3];rfl
     have elz:decide (0<s.li.length+s.pins.length+s.body.length)=false:=decide_eq_false (by omega)
     rw[elz,e14,if_neg (by simp[n0,n1])]at hm
     exact hm
    ·have:0<s.body.length:=List.length_pos_iff.2 g3
     simp only[go_sem,kk,g1,g2,g3]
     rw[if_pos (by simp[kk];omega)]at hm
     exact hm
   ·simp only[go_sem,l1,l2,l3,n0,n1]
    rw[if_pos (by simp[n0,n1])]at hm
    exact hm
  by_cases n2:0<s.nu
  ·by_cases n3:(s.prev.length:Int)=32
   ·have n3':s.prev.length=32:=by omega
    simp only[go_sem,l1,l2,l3,n0,n2,n3]
    refine call cp [] ?_
    cases e14:jn s.pins
    ·simp only[go_sem]
     rw[←hm];simp[e14]
    by_cases g1:(0:Int)<(s.li.length:Int)
    ·simp only[go_sem,kk,g1]
     rw[if_pos (by simp[kk];omega)]at hm
     exact hm
    by_cases g2:(0:Int)<(s.pins.length:Int)
    ·simp only[go_sem,kk,g1,g2]
     rw[if_pos (by simp[kk];omega)]at hm
     exact hm
    by_cases g3:s.body=[]
    ·simp only[go_sem,kk,g1,g2,g3]
     have g4:s.body.length=0:=by rw[g3];rfl
     have elz:decide (0<s.li.length+s.pins.length+s.body.length)=false:=decide_eq_false (by omega)
     rw[elz,e14,if_neg (by simp[n0,n2,n3'])]at hm
     exact hm
    ·have:0<s.body.length:=List.length_pos_iff.2 g3
     simp only[go_sem,kk,g1,g2,g3]
     rw[if_pos (by simp[kk];omega)]at hm
     exact hm
   ·have n3': ¬s.prev.length=32:=by omega
    simp only[go_sem,l1,l2,l3,n0,n2,n3]
    rw[if_pos (by simp[n2,n3'])]at hm
    exact hm
  simp only[go_sem,l1,l2,l3,n0,n2]
  refine call cp [] ?_
  cases e14:jn s.pins
  ·simp only[go_sem]
   rw[←hm];simp[e14]
  by_cases g1:(0:Int)<(s.li.length:Int)
  ·simp only[go_sem,kk,g1]
   rw[if_pos (by simp[kk];omega)]at hm
   exact hm
  by_cases g2:(0:Int)<(s.pins.length:Int)
  ·simp only[go_sem,kk,g1,g2]
   rw[if_pos (by simp[kk];omega)]at hm
   exact hm
  by_cases g3:s.body=[]
  ·simp only[go_sem,kk,g1,g2,g3]
   have g4:s.body.length=0:=by rw[g3];rfl
   have elz:decide (0<s.li.length+s.pins.length+s.body.length)=false:=decide_eq_false (by omega)
   rw[elz,e14,if_neg (by simp[n0,n2])]at hm
   exact hm
  ·have:0<s.body.length:=List.length_pos_iff.2 g3
   simp only[go_sem,kk,g1,g2,g3]
   rw[if_pos (by simp[kk];omega)]at hm
   exact hm
 have k2:3<s.kd:=by omega
 by_cases k3:s.kd<10
 ·have ek:(!inB s.kd 1 3&& !inB s.kd 10 31)=true:=by rw[inB,inB,decide_eq_false (by omega),decide_eq_false (by omega)];rfl
  simp only[go_sem,k1,k2,k3]
  rw[←hm];simp only[ah,e1,ek];rfl
 by_cases k4:31<s.kd
 ·have ek:(!inB s.kd 1 3&& !inB s.kd 10 31)=true:=by rw[inB,inB,decide_eq_false (by omega),decide_eq_false (by omega)];rfl
  simp only[go_sem,k1,k2,k3,k4]
  rw[←hm];simp only[ah,e1,ek];rfl
 have ek:(!inB s.kd 1 3&& !inB s.kd 10 31)=false:=by rw[inB,inB,decide_eq_false (by omega),decide_eq_true (by omega)];rfl
 simp only[go_sem,k1,k2,k3,k4]
 refine call (mr s.ti 2147483648) [] ?_
 cases e4:inB s.ti 0 2147483648
 ·simp only[go_sem]
  rw[←hm];simp[ah,e1,ek,e4]
 simp only[go_sem]
 refine call cn [] ?_
 cases e5:qf s
 ·have e5':=a26 e5
  simp only[go_sem]
  rw[←hm];simp only[ah,e1,ek,e4,e5'];rfl
 have e5':=a29 e5
 by_cases l1:(64:Int)<(s.li.length:Int)
 ·have elen:(decide (64<s.li.length)||decide (64<s.pins.length)||decide (4096<s.body.length))=true:=by simp;omega
  simp only[go_sem,l1]
  rw[←hm];simp only[ah,e1,ek,e4,e5',elen];rfl
 by_cases l2:(64:Int)<(s.pins.length:Int)
 ·have elen:(decide (64<s.li.length)||decide (64<s.pins.length)||decide (4096<s.body.length))=true:=by simp;omega
  simp only[go_sem,l1,l2]
  rw[←hm];simp only[ah,e1,ek,e4,e5',elen];rfl
 by_cases l3:(4096:Int)<(s.body.length:Int)
 ·have elen:(decide (64<s.li.length)||decide (64<s.pins.length)||decide (4096<s.body.length))=true:=by simp;omega
  simp only[go_sem,l1,l2,l3]
  rw[←hm];simp only[ah,e1,ek,e4,e5',elen];rfl
 have elen:(decide (64<s.li.length)||decide (64<s.pins.length)||decide (4096<s.body.length))=false:=by simp;omega
 have hm:(if((decide (s.nu=0)&&decide (s.prev≠[]))||(decide (0<s.nu)&&decide (s.prev.length≠32))|| !jn s.pins||(decide (s.kd≤3)&&decide (0<s.li.length+s.pins.length+s.body.length)))=true then 1
  else(0:Int))=m:=by rw[←hm];simp only[ah,e1,ek,e4,e5',elen];rfl
 by_cases n0:s.nu=0
 ·by_cases n1:s.prev=[]
  ·skip
   simp only[go_sem,l1,l2,l3,n0,n1]
   refine call cp [] ?_
   cases e14:jn s.pins
   ·simp only[go_sem]
    rw[←hm];simp[e14]
   simp only[go_sem,kk]
   rw[if_neg (by simp[kk,e14,n0,n1])]at hm
   exact hm
  ·simp only[go_sem,l1,l2,l3,n0,n1]
   rw[if_pos (by simp[n0,n1])]at hm
   exact hm
 by_cases n2:0<s.nu
 ·by_cases n3:(s.prev.length:Int)=32
  ·have n3':s.prev.length=32:=by omega
   simp only[go_sem,l1,l2,l3,n0,n2,n3]
   refine call cp [] ?_
   cases e14:jn s.pins
   ·simp only[go_sem]
    rw[←hm];simp[e14]
   simp only[go_sem,kk]
   rw[if_neg (by simp[kk,e14,n0,n2,n3'])]at hm
   exact hm
  ·have n3': ¬s.prev.length=32:=by omega
   simp only[go_sem,l1,l2,l3,n0,n2,n3]
   rw[if_pos (by simp[n2,n3'])]at hm
   exact hm
 simp only[go_sem,l1,l2,l3,n0,n2]
 refine call cp [] ?_
 cases e14:jn s.pins
 ·simp only[go_sem]
  rw[←hm];simp[e14]
 simp only[go_sem,kk]
 rw[if_neg (by simp[kk,e14,n0,n2])]at hm
 exact hm
theorem ap0(s:Stm)(hs:okS s):Den Tryz.prog 100 [.agg (sm s)] [] (.int .i64 (ah s)) [] []:=o0 s hs.big
theorem o6(s:Stm)(hs:okS s):Den Tryz.prog 101 [.agg (sm s)] [] (.bool (decide (s.sk=s.au∧s.sd=dig s))) [] []:=by
 refine ac Tryz.mixed Tryz.func101 rfl Tryz.call101 Tryz.ntmps101 (congrArg Array.toList Tryz.results101) (by simp) (by kernel_rfl) [] (exts:=[]) rfl rfl ?_
 by_cases h1:s.sk=s.au
 ·simp only[go_sem,h1]
  refine call (alk s hs) [] ?_
  simp only[go_sem,h1]
  exact aa (by kernel_rfl)
 ·simp only[go_sem,h1]
  exact aa (by kernel_rfl)
structure Ct where
 li:List Int
 pi:List Pn
deriving Inhabited,DecidableEq
def ct(x:Ct):List PV:=[.vs (x.li.map i1),.vs (x.pi.map pn)]
theorem iu(x:Ct):ct x=[.vs (x.li.map i1),.vs (x.pi.map pn)]:=(rfl)
attribute [go_sem] iu
def ue(x:Ct):Prop:=x.li.length≤1000000∧(x.pi.flatMap pnB).length≤100000000
def aqb(l:List Pn):Stm:=⟨0,0,[],0,10,0,0,0,[],l,[],0,[]⟩
theorem arp{x:Ct}(h:ue x):okS (aqb x.pi):=by
 obtain⟨h1,h2⟩:=h
 simp only[aqb,okS,stB,qa,wn,hdB,List.length_append,cr,ap,ei,l5,List.length_cons,List.length_nil]
 omega
def abn(k:Int)(l:List Int):Bool:=
 if k=1 then decide (l.length=2∧0≤el l 0∧el l 0<4294967296∧0≤el l 1∧el l 1<4294967296)else decide (l.length=1∧(el l 0=0∨el l 0=1))
def fg(c:Cs)(x:Ct):Bool:=dh c&&(decide (ah (aqb x.pi)=0)&&abn c.kd x.li)
theorem afj(c:Cs)(x:Ct)(hx:ue x):Den Tryz.prog 78 [.agg (cs c),.agg (ct x)] [] (.bool (fg c x)) [] []:=by
 refine ac Tryz.mixed Tryz.func78 rfl Tryz.call78 Tryz.ntmps78 (congrArg Array.toList Tryz.results78) (by simp) (by kernel_rfl) [] (exts:=[]) rfl rfl ?_
 have c1:=oa c
 rw[bf]at c1
 have c2:=ap0 (aqb x.pi) (arp hx)
 rw[show sm (aqb x.pi)=[.int .i64 0,.int .i64 0,.str [],.int .i64 0,.int .i64 10,.int .i64 0,.int .i64 0,.int .i64 0,.vs [],.vs (x.pi.map pn),.str [],.int .i64 0,.str []] from rfl]at c2
 generalize hm:fg c x=m
 simp only[go_sem]
 refine call c1 [] ?_
 cases a1:dh c
 ·simp only[go_sem]
  rw[←hm];simp[fg,a1]
 simp only[go_sem]
 refine call c2 [] ?_
 by_cases a2:ah (aqb x.pi)=0
 rotate_left
 ·simp only[go_sem,a2]
  rw[←hm];simp[fg,a2]
 have hm:abn c.kd x.li=m:=by rw[←hm];simp[fg,a1,a2]
 by_cases k1:c.kd=1
 ·have hm:decide (x.li.length=2∧0≤el x.li 0∧el x.li 0<4294967296∧0≤el x.li 1∧el x.li 1<4294967296)=m:=by rw[←hm,abn,if_pos k1]
  by_cases g1:(x.li.length:Int)=2
  rotate_left
  ·simp only[go_sem,a2,k1,g1]
   rw[←hm];exact(decide_eq_false (by omega)).symm
  have h0:0<x.li.length:=by omega
  have h1:1<x.li.length:=by omega
  have h0':(0:Int)<(x.li.length:Int):=by omega
  have h1':(1:Int)<(x.li.length:Int):=by omega
  by_cases g2:0≤el x.li 0
  rotate_left
  ·simp only[go_sem,a2,k1,g1,h0,h1,h0',h1',g2]
   rw[←hm];exact(decide_eq_false (by omega)).symm
  by_cases g3:el x.li 0<4294967296
  rotate_left
  ·simp only[go_sem,a2,k1,g1,h0,h1,h0',h1',g2,g3]
   rw[←hm];exact(decide_eq_false (by omega)).symm
  by_cases g4:0≤el x.li 1
  rotate_left
  ·simp only[go_sem,a2,k1,g1,h0,h1,h0',h1',g2,g3,g4]
   rw[←hm];exact(decide_eq_false (by omega)).symm
  simp only[go_sem,a2,k1,g1,h0,h1,h0',h1',g2,g3,g4]
  rw[←hm]
  exact decide_eq_decide.2 (by omega)
 ·have hm:decide (x.li.length=1∧(el x.li 0=0∨el x.li 0=1))=m:=by rw[←hm,abn,if_neg k1]
  by_cases g1:(x.li.length:Int)=1
  rotate_left
  ·simp only[go_sem,a2,k1,g1]
   rw[←hm];exact(decide_eq_false (by omega)).symm
  have h0:0<x.li.length:=by omega
  have h0':(0:Int)<(x.li.length:Int):=by omega
  by_cases g2:el x.li 0=0
  ·simp only[go_sem,a2,k1,g1,h0,h0',g2]
   rw[←hm];exact(decide_eq_true (by omega)).symm
  ·simp only[go_sem,a2,k1,g1,h0,h0',g2]
   rw[←hm]
   exact decide_eq_decide.2 (by omega)
def au3(c:Cs):Int:=if dh c then c.kd+16*c.ro else 0
theorem axt(c:Cs):Den Tryz.prog 79 [.agg (cs c)] [] (.int .i64 (au3 c)) [] []:=by
 refine ac Tryz.mixed Tryz.func79 rfl Tryz.call79 Tryz.ntmps79 (congrArg Array.toList Tryz.results79) (by simp) (by kernel_rfl) [] (exts:=[]) rfl rfl ?_
 have c1:=oa c
 rw[bf]at c1
 simp only[go_sem]
 refine call c1 [] ?_
 cases a1:dh c
 ·simp only[go_sem]
  rw[au3,a1];rfl
 ·have hc:=of_decide_eq_true a1
  have e1:IntKind.i64.wrap (16*c.ro)=16*c.ro:=by rw[ae]<;>omega
  have e2:IntKind.i64.wrap (c.kd+16*c.ro)=c.kd+16*c.ro:=by rw[ae]<;>omega
  simp only[go_sem,e1,e2]
  rw[au3,a1];rfl
def dq(c:Cs)(x:Ct):Drf×Int:=if dh c=false then(noD,41)else if fg c x=false then(noD,42)else(⟨10,c.ep,c.kd+16*c.ro,c.su,x.li,x.pi⟩,0)
theorem apx(c:Cs)(x:Ct)(hx:ue x):Den Tryz.prog 49 [.agg (cs c),.agg (ct x)] [] (.tup [.agg (dr (dq c x).1),.int .i64 (dq c x).2]) [] []:=by
 refine ac Tryz.mixed Tryz.func49 rfl Tryz.call49 Tryz.ntmps49 (congrArg Array.toList Tryz.results49) (by simp) (by kernel_rfl) [] (exts:=[]) rfl rfl ?_
 have c1:=oa c
 rw[bf]at c1
 have c2:=afj c x hx
 rw[bf,iu]at c2
 have c3:=axt c
 rw[bf]at c3
 have hxp:=mi x.pi
 obtain⟨hx1,hx2⟩:=hx
 simp only[go_sem]
 refine call c1 [] ?_
 cases a1:dh c
 ·have e1:dq c x=(noD,41):=by rw[dq,if_pos a1]
  rw[e1]
  simp only[go_sem,noD]
  all_goals rfl
 simp only[go_sem]
 refine call c2 [] ?_
 cases a2:fg c x
 ·have e1:dq c x=(noD,42):=by rw[dq,if_neg (by simp[a1]),if_pos a2]
  rw[e1]
  simp only[go_sem,noD]
  all_goals rfl
 have e1:dq c x=(⟨10,c.ep,c.kd+16*c.ro,c.su,x.li,x.pi⟩,0):=by rw[dq,if_neg (by simp[a1]),if_neg (by simp[a2])]
 rw[e1]
 have e2:au3 c=c.kd+16*c.ro:=by rw[au3,a1];rfl
 rw[e2]at c3
 simp only[go_sem]
 refine call c3 [] ?_
 simp only[go_sem]
 exact⟨by omega,by omega,aa (by kernel_rfl)⟩
def a9k(d:Drf):Prop:=d.li.length≤1000000∧(d.pins.flatMap pnB).length≤100000000
theorem ago(au nu ti:Int)(d:Drf)(hd:a9k d):Den Tryz.prog 27 [.int .i64 au,.int .i64 nu,.int .i64 ti,.agg (dr d)] [] (.agg (sm (gh au nu ti d))) [] []:=by
 refine ac Tryz.mixed Tryz.func27 rfl Tryz.call27 Tryz.ntmps27 (congrArg Array.toList Tryz.results27) (by simp) (by kernel_rfl) [] (exts:=[]) rfl rfl ?_
 have hxp:=mi d.pins
 obtain⟨h1,h2⟩:=hd
 have hok: ∀p:List UInt8,p.length≤32→okS ⟨au,nu,p,ti,d.kd,d.a,d.b,d.c,d.li,d.pins,[],0,[]⟩:=fun p hp=>by
  simp only[okS,stB,qa,wn,hdB,List.length_append,cr,ap,ei,l5,List.length_cons,List.length_nil]
  omega
 by_cases hn:0<nu
 ·have he:List.replicate 32 [zq (PV.int IntKind.u8 0)]=(List.replicate 32 (0:UInt8)).map u8:=by rw[List.map_replicate];rfl
  have hs:gh au nu ti d=nh ⟨au,nu,List.replicate 32 0,ti,d.kd,d.a,d.b,d.c,d.li,d.pins,[],0,[]⟩:=by rw[gh,if_pos hn]
  rw[hs]
  simp only[go_sem,hn]
  refine⟨by omega,by omega,aa (by kernel_rfl),_,he,?_⟩
  refine call (uc ⟨au,nu,List.replicate 32 0,ti,d.kd,d.a,d.b,d.c,d.li,d.pins,[],0,[]⟩ (hok _ (by simp))) [] ?_
  simp only[go_sem]
 ·have hs:gh au nu ti d=nh ⟨au,nu,[],ti,d.kd,d.a,d.b,d.c,d.li,d.pins,[],0,[]⟩:=by rw[gh,if_neg hn]
  rw[hs]
  simp only[go_sem,hn]
  refine⟨by omega,by omega,aa (by kernel_rfl),?_⟩
  refine call (uc ⟨au,nu,[],ti,d.kd,d.a,d.b,d.c,d.li,d.pins,[],0,[]⟩ (hok _ (by simp))) [] ?_
  simp only[go_sem]
theorem af5(c:Cs)(x:Ct)(hx:ue x):a9k (dq c x).1:=by
 unfold dq
 split
 ·exact⟨by simp[noD],by simp[noD]⟩
 split
 ·exact⟨by simp[noD],by simp[noD]⟩
 ·exact hx
def vt(au nu:Int)(c:Cs)(x:Ct):Stm:=gh au nu 1 (dq c x).1
theorem axq(au nu:Int)(c:Cs)(x:Ct)(hx:ue x):Den Tryz.prog 26 [.int .i64 au,.int .i64 nu,.agg (cs c),.agg (ct x)] [] (.agg (sm (vt au nu c x))) [] []:=by
 refine ac Tryz.mixed Tryz.func26 rfl Tryz.call26 Tryz.ntmps26 (congrArg Array.toList Tryz.results26) (by simp) (by kernel_rfl) [] (exts:=[]) rfl rfl ?_
 have c2:=apx c x hx
 rw[bf,iu]at c2
 have c3:=ago au nu 1 (dq c x).1 (af5 c x hx)
 have hv:vt au nu c x=gh au nu 1 (dq c x).1:=rfl
 rw[hv]
 generalize hd:(dq c x).1=d at*
 generalize gh au nu 1 d=s at*
 simp only[go_sem]
 refine call c2 [] ?_
 rw[aru]at c3
 simp only[go_sem]
 refine call c3 [] ?_
 simp only[go_sem]
def kg(l:List Int)(p:Nat)(c:Cs):Ct×Nat:=
 if c.kd≠1 then(⟨[ai l p 2],[]⟩,dgo l p 1)
 else if ai l (dgo l p 2) 4=3 then(⟨[1+ai l p 127,el ([0,0,1]:List Int) (ai l (dgo l p 1) 3).toNat],[⟨ai l (dgo l p 3) 4,1+ai l (dgo l p 4) 3,bac l (dgo l p 5)⟩]⟩,dgo l p 7)
 else(⟨[1+ai l p 127,el ([0,0,1]:List Int) (ai l (dgo l p 1) 3).toNat],[]⟩,dgo l p 3)
theorem ay9(l:List Int)(p:Nat)(c:Cs):ue (kg l p c).1:=by
 unfold kg
 split
 ·exact⟨by simp,by simp⟩
 split
 ·exact⟨by simp,by simp[pnB,ap,ei,a01]⟩
 ·exact⟨by simp,by simp⟩
theorem amd{l:List Int}{p:Nat}(hp:p≤l.length)(c:Cs):(kg l p c).2≤l.length:=by
 unfold kg
 split
 ·exact d9 hp _
 split
 ·exact d9 hp _
 ·exact d9 hp _
theorem ai4(l:List Int)(p:Nat)(c:Cs)(hl:big l.length)(hp:p≤l.length):Den Tryz.prog 32 [.ptr 1000000 0,.agg (cs c)] [abr l p] (.agg (ct (kg l p c).1)) [] [abr l (kg l p c).2]:=by
 refine ac Tryz.mixed Tryz.func32 rfl Tryz.call32 Tryz.ntmps32 (congrArg Array.toList Tryz.results32) (by simp) (by kernel_rfl) [] (exts:=[1000000]) rfl rfl ?_
 have hp1:=d9 hp 1
 have hp2:=d9 hp 2
 have hp3:=d9 hp 3
 have hp4:=d9 hp 4
 have hp5:=d9 hp 5
 have e0:ag6 l p=dgo l p 1:=rfl
 by_cases k1:c.kd=1
 rotate_left
 ·have hm:kg l p c=(⟨[ai l p 2],[]⟩,dgo l p 1):=by rw[kg,if_pos k1]
  rw[hm]
  simp only[go_sem,k1]
  refine call (fe l p 2 hl hp (by omega)) [1000000] ?_
  simp only[go_sem,e0]
 have hm:kg l p c=if ai l (dgo l p 2) 4=3 then(⟨[1+ai l p 127,el ([0,0,1]:List Int) (ai l (dgo l p 1) 3).toNat],[⟨ai l (dgo l p 3) 4,1+ai l (dgo l p 4) 3,bac l (dgo l p 5)⟩]⟩,dgo l p 7)
  else(⟨[1+ai l p 127,el ([0,0,1]:List Int) (ai l (dgo l p 1) 3).toNat],[]⟩,dgo l p 3):=by rw[kg,if_neg (by simp[k1])]
 generalize kg l p c=m at*
 have b1:=bm (l:=l) (p:=p) (n:=127) (by omega)
 have w1:IntKind.i64.wrap (1+ai l p 127)=1+ai l p 127:=by rw[ae]<;>omega
 simp only[go_sem,k1]
 refine call (fe l p 127 hl hp (by omega)) [1000000] ?_
 simp only[go_sem,e0]
 refine call (wy l (dgo l p 1) [0,0,1] hl hp1 (by simp) (by simp[big])) [1000000] ?_
 simp only[go_sem,dd]
 refine call (w4 l (dgo l p 2) 4 hl hp2 (by omega) (by omega)) [1000000] ?_
 cases h:decide (ai l (dgo l p 2) 4=4 - 1)
 ·have hc: ¬ai l (dgo l p 2) 4=3:=of_decide_eq_false h
  rw[if_neg hc]at hm
  subst hm
  simp only[go_sem,dd,w1]
 ·have hc:ai l (dgo l p 2) 4=3:=of_decide_eq_true h
  rw[if_pos hc]at hm
  subst hm
  simp only[go_sem,dd]
  refine call (fe l (dgo l p 3) 4 hl hp3 (by omega)) [1000000] ?_
  simp only[go_sem,dd]
  refine call (fe l (dgo l p 4) 3 hl hp4 (by omega)) [1000000] ?_
  have b2:=bm (l:=l) (p:=dgo l p 4) (n:=3) (by omega)
  have w2:IntKind.i64.wrap (1+ai l (dgo l p 4) 3)=1+ai l (dgo l p 4) 3:=by rw[ae]<;>omega
  simp only[go_sem,dd]
  refine call (ao1 l (dgo l p 5) hl hp5) [1000000] ?_
  simp only[go_sem,dd,w1,w2]
  exact⟨by decide,rfl⟩
structure Tm where
 ep:Int
 ros:List Int
 bea:List UInt8
 dec:Bool
 nx:Ct
deriving Inhabited,DecidableEq
def tm(t:Tm):List PV:=[.int .i64 t.ep,.vs (t.ros.map i1),.str t.bea,.bool t.dec,.vs (t.nx.li.map i1),.vs (t.nx.pi.map pn)]
theorem lk(t:Tm):tm t=[.int .i64 t.ep,.vs (t.ros.map i1),.str t.bea,.bool t.dec,.vs (t.nx.li.map i1),.vs (t.nx.pi.map pn)]:=(rfl)
attribute [go_sem] lk
def pr(s:List Int)(i:Nat):Bool:=decide (0≤el s i∧el s i<64∧el s i∉s.take i)
def ckS(c:Cs)(s:List Int):Int:=if dh c=false then 41 else if s.length<1∨9<s.length then 44 else if aiy (pr s) s.length then 0 else 44
theorem wq(c:Cs)(s:List Int)(hs:big s.length):Den Tryz.prog 105 [.agg (cs c),.vs (s.map i1)] [] (.int .i64 (ckS c s)) [] []:=by
 refine ac Tryz.mixed Tryz.func105 rfl Tryz.call105 Tryz.ntmps105 (congrArg Array.toList Tryz.results105) (by simp) (by kernel_rfl) [] (exts:=[]) rfl rfl ?_
 have c1:=oa c
 rw[bf]at c1
 generalize hm:ckS c s=m
 simp only[go_sem]
 refine call c1 [] ?_
 cases a1:dh c
 ·simp only[go_sem]
  rw[←hm,ckS,if_pos a1]
 rw[ckS,if_neg (by simp[a1])]at hm
 by_cases a2:(s.length:Int)<1
 ·simp only[go_sem,a2]
  rw[if_pos (.inl (by omega))]at hm
  exact hm
 by_cases a3:9<(s.length:Int)
 ·simp only[go_sem,a2,a3]
  rw[if_pos (.inr (by omega))]at hm
  exact hm
 rw[if_neg (by omega)]at hm
 have hbad:aiy (pr s) s.length=false→m=44:=fun h=>by rw[←hm,h];rfl
 have hgood:aiy (pr s) s.length=true→m=0:=fun h=>by rw[←hm,h];rfl
 simp only[go_sem,a2,a3]
 refine loop Tryz.mixed 0 (fun i:Nat=>[(1,.vs (s.map i1)),(5,.int .i64 i)]) (fun i=>[]) (fun i=>i≤s.length∧∀j,j<i→pr s j=true) (fun i=>s.length - i) (by kernel_rfl) ?_ ?_ ?_
 ·simp
 ·simp only[go_sem]
 ·rintro i ⟨hi,hp⟩
  by_cases hi':i<s.length
  ·have hlt:(i:Int)<(s.length:Int):=by omega
   by_cases b1:el s i<0
   ·have hq:pr s i=false:=decide_eq_false (by omega)
    simp only[go_sem,hlt,hi',b1]
    exact⟨aa (by kernel_rfl),(hbad (gn hi' hq)).symm⟩
   by_cases b2:64≤el s i
   ·have hq:pr s i=false:=decide_eq_false (by omega)
    simp only[go_sem,hlt,hi',b1,b2]
    exact⟨aa (by kernel_rfl),(hbad (gn hi' hq)).symm⟩
   simp only[go_sem,hlt,hi',b1,b2]
   refine⟨⟨by omega,by omega⟩,call (ww (s.take i) (el s i) (by rw[List.length_take];simp only[big]at*;omega)) [] ?_⟩
   by_cases b3:el s i∈s.take i
   ·have hq:pr s i=false:=decide_eq_false (by simp[b3])
    simp only[go_sem,b3]
    exact⟨aa (by kernel_rfl),(hbad (gn hi' hq)).symm⟩
   ·have hq:pr s i=true:=decide_eq_true ⟨by omega,by omega,b3⟩
    simp only[go_sem,b3]
    exact⟨aa (by kernel_rfl),i+1,⟨⟨by omega,dw hp hq⟩,by omega⟩,by rw[ae]<;>omega⟩
  ·have hf: ¬((i:Int)<(s.length:Int)):=by omega
   have:i=s.length:=by omega
   subst this
   simp only[go_sem,hf]
   exact(hgood (rv hp)).symm
theorem an2(c:Cs):Den Tryz.prog 71 [.vs [],.agg (cs c)] [] (.vs []) [] []:=by
 refine ac Tryz.mixed Tryz.func71 rfl Tryz.call71 Tryz.ntmps71 (congrArg Array.toList Tryz.results71) (by simp) (by kernel_rfl) [] (exts:=[]) rfl rfl ?_
 simp only[go_sem]
 refine loop Tryz.mixed 0 (fun i:Nat=>[(0,.vs []),(5,.vs []),(6,.int .i64 0)]) (fun i=>[]) (fun i=>True) (fun i=>0) (by kernel_rfl) ?_ ?_ ?_
 ·trivial
 ·simp only[go_sem]
 ·intro i _
  simp only[go_sem]
theorem anz(s:List Int):Den Tryz.prog 106 [.vs [],.vs (s.map i1)] [] (.vs []) [] []:=by
 refine ac Tryz.mixed Tryz.func106 rfl Tryz.call106 Tryz.ntmps106 (congrArg Array.toList Tryz.results106) (by simp) (by kernel_rfl) [] (exts:=[]) rfl rfl ?_
 simp only[go_sem]
 refine loop Tryz.mixed 0 (fun i:Nat=>[(0,.vs []),(5,.vs []),(6,.int .i64 0)]) (fun i=>[]) (fun i=>True) (fun i=>0) (by kernel_rfl) ?_ ?_ ?_
 ·trivial
 ·simp only[go_sem]
 ·intro i _
  simp only[go_sem]
theorem ay3(c:Cs)(s:List Int)(hs:big s.length):Den Tryz.prog 73 [.vs [],.agg (cs c),.vs (s.map i1)] [] (.tup [.vs [],.int .i64 (ckS c s)]) [] []:=by
 refine ac Tryz.mixed Tryz.func73 rfl Tryz.call73 Tryz.ntmps73 (congrArg Array.toList Tryz.results73) (by simp) (by kernel_rfl) [] (exts:=[]) rfl rfl ?_
 have c1:=wq c s hs
 have c2:=an2 c
 rw[bf]at c1 c2
 generalize ckS c s=m at*
 simp only[go_sem]
 refine call c1 [] ?_
 by_cases h:m=0
 rotate_left
 ·simp only[go_sem,h]
 simp only[go_sem,h]
 refine call c2 [] ?_
 simp only[go_sem]
 refine call (anz s) [] ?_
 simp only[go_sem]
 refine loop Tryz.mixed 0 (fun i:Nat=>[(9,.vs []),(10,.vs []),(11,.int .i64 0)]) (fun i=>[]) (fun i=>True) (fun i=>0) (by kernel_rfl) ?_ ?_ ?_
 ·trivial
 ·simp only[go_sem]
 ·intro i _
  simp only[go_sem,h]
def noC:Ct:=⟨[],[]⟩
theorem a5o(c:Cs)(s:List Int)(hs:big s.length):Den Tryz.prog 47 [.vs [],.agg (cs c),.vs (s.map i1)] [] (.tup [.agg (ct noC),.bool false,.int .i64 (ckS c s)]) [] []:=by
 refine ac Tryz.mixed Tryz.func47 rfl Tryz.call47 Tryz.ntmps47 (congrArg Array.toList Tryz.results47) (by simp) (by kernel_rfl) [] (exts:=[]) rfl rfl ?_
 have c1:=ay3 c s hs
 rw[bf]at c1
 generalize ckS c s=m at*
 simp only[go_sem]
 refine call c1 [] ?_
 by_cases h:m=0
 ·simp only[go_sem,h,noC,List.map_nil]
 ·simp only[go_sem,h,noC,List.map_nil]
def bp(r:Rl)(t:Tm)(c:Cs):List Int×Int:=if c.ep≠t.ep then([],46)else ofR r t.bea t.ros c
theorem adi(r:Rl)(t:Tm)(c:Cs)(h0:big r.gen.length)(h1:big r.pol.se.length)(h2:big r.pol.ta.length)(hl:big t.ros.length)(hv:j8 t.ros=true→t.bea.length=32):Den Tryz.prog 25 [.agg (rl r),.agg (tm t),.agg (cs c)] [] (.tup [.vs ((bp r t c).1.map i1),.int .i64 (bp r t c).2]) [] []:=by
 refine ac Tryz.mixed Tryz.func25 rfl Tryz.call25 Tryz.ntmps25 (congrArg Array.toList Tryz.results25) (by simp) (by kernel_rfl) [] (exts:=[]) rfl rfl ?_
 have c1:=aw5 r t.bea t.ros c h0 h1 h2 hl hv
 rw[bf,fk]at c1
 have hm:bp r t c=if c.ep≠t.ep then([],46)else ofR r t.bea t.ros c:=rfl
 generalize bp r t c=m at*
 by_cases h:c.ep=t.ep
 ·rw[if_neg (by simpa using h)]at hm
  rw[←hm]at c1
  simp only[go_sem,h]
  rw[h]at c1
  refine call c1 [] ?_
  simp only[go_sem]
 ·rw[if_pos h]at hm
  subst hm
  simp only[go_sem,h,List.map_nil]
theorem aoo(k:Int):Den Tryz.prog 83 [.int .i64 k] [] (.agg (cs ⟨k,1,0,0⟩)) [] []:=by
 refine ac Tryz.mixed Tryz.func83 rfl Tryz.call83 Tryz.ntmps83 (congrArg Array.toList Tryz.results83) (by simp) (by kernel_rfl) [] (exts:=[]) rfl rfl ?_
 simp only[go_sem]
def bbx(r:Rl)(t:Tm)(c:Cs):Int:=if(bp r t c).2≠0 then(bp r t c).2 else ckS c (bp r t c).1
theorem at0(r:Rl)(v:List UInt8)(l:List Int)(c:Cs):(ofR r v l c).1.length≤64:=by
 have h: ∀j prev,(mo r v l c j prev).length≤64:=fun j prev=>by
  rw[qe]
  have:=vc l prev
  omega
 rw[sj]
 (repeat' split)<;>first|exact h _ _|simp
theorem q5(r:Rl)(t:Tm)(c:Cs):(bp r t c).1.length≤64:=by
 unfold bp
 split
 ·simp
 ·exact at0 _ _ _ _
theorem agy(r:Rl)(t:Tm)(c:Cs)(h0:big r.gen.length)(h1:big r.pol.se.length)(h2:big r.pol.ta.length)(hl:big t.ros.length)(hv:j8 t.ros=true→t.bea.length=32):Den Tryz.prog 23 [.agg (rl r),.vs [],.agg (tm t),.agg (cs c)] [] (.tup [.agg (ct noC),.bool false,.int .i64 (bbx r t c)]) [] []:=by
 refine ac Tryz.mixed Tryz.func23 rfl Tryz.call23 Tryz.ntmps23 (congrArg Array.toList Tryz.results23) (by simp) (by kernel_rfl) [] (exts:=[]) rfl rfl ?_
 have hsl:=q5 r t c
 have c1:=adi r t c h0 h1 h2 hl hv
 have c2:=a5o c (bp r t c).1 (by simp only[big];omega)
 have hm:bbx r t c=if(bp r t c).2≠0 then(bp r t c).2 else ckS c (bp r t c).1:=rfl
 generalize bbx r t c=m at*
 generalize bp r t c=S at*
 obtain⟨s,k⟩:=S
 simp only at hm c1 c2
 rw[bf,fk,lk]at c1
 rw[bf]at c2
 simp only[go_sem]
 refine call c1 [] ?_
 by_cases h:k=0
 ·rw[if_neg (by simpa using h)]at hm
  rw[←hm]at c2
  simp only[go_sem,h]
  refine call c2 [] ?_
  simp only[go_sem]
 ·rw[if_pos h]at hm
  subst hm
  simp only[go_sem,h,noC,List.map_nil]
  done
def kj(r:Rl):Tm:=⟨0,r.gen,qj r,false,noC⟩
theorem ano(r:Rl)(hr:d6 r=0)(h0:r.gen.length≤1000000)(h1:r.pol.se.length≤1000000)(h2:r.pol.ta.length≤1000000):Den Tryz.prog 51 [.agg (rl r),.vs []] [] (.tup [.vs [tm (kj r)],.int .i64 0]) [] []:=by
 refine ac Tryz.mixed Tryz.func51 rfl Tryz.call51 Tryz.ntmps51 (congrArg Array.toList Tryz.results51) (by simp) (by kernel_rfl) [] (exts:=[]) rfl rfl ?_
 have c0:=tv r (by simp only[big];omega) (by simp only[big];omega) (by simp only[big];omega)
 have c1:=at1 r hr h0 h1 h2
 have c2:=agy r (kj r) ⟨0,1,0,0⟩ (by simp only[big];omega) (by simp only[big];omega) (by simp only[big];omega) (by show big r.gen.length;simp only[big];omega) (fun _=>abp _)
 have c3:=aoo 0
 have ht:tm (kj r)=[.int .i64 0,.vs (r.gen.map i1),.str (qj r),.bool false,.vs [],.vs []]:=rfl
 rw[ht]at c2 ⊢
 generalize bbx r (kj r) ⟨0,1,0,0⟩=k at*
 generalize qj r=v at*
 rw[hr]at c0
 rw[fk]at c0 c1 c2
 rw[bf]at c2 c3
 have hn:ct noC=[.vs [],.vs []]:=rfl
 rw[hn]at c2
 clear hn ht
 simp only[go_sem]
 refine call c0 [] ?_
 simp only[go_sem]
 refine call c1 [] ?_
 simp only[go_sem]
 refine⟨by omega,?_⟩
 refine loop Tryz.mixed 0 (fun i:Nat=>[(2,.ptr 2 0),(1,.vs []),(7,.str v),(9,.vs (r.gen.map i1)),(10,.nils),(11,.int .i64 0)]) (fun i=>[(2,.cells (rl r))]) (fun i=>True) (fun i=>0) (by kernel_rfl) ?_ ?_ ?_
 ·trivial
 ·simp only[go_sem]
 ·intro i _
  simp only[go_sem]
  refine call c3 [] ?_
  simp only[go_sem]
  refine call c2 [] ?_
  simp only[go_sem]
  exact⟨aa (by kernel_rfl),aa (by kernel_rfl)⟩
theorem as4(r:Rl)(hr:d6 r=0)(h0:r.gen.length≤1000000)(h1:r.pol.se.length≤1000000)(h2:r.pol.ta.length≤1000000):Den Tryz.prog 28 [.agg (rl r),.vs [],.int .i64 0] [] (.tup [.agg (tm (kj r)),.int .i64 0]) [] []:=by
 refine ac Tryz.mixed Tryz.func28 rfl Tryz.call28 Tryz.ntmps28 (congrArg Array.toList Tryz.results28) (by simp) (by kernel_rfl) [] (exts:=[]) rfl rfl ?_
 have c1:=ano r hr h0 h1 h2
 rw[fk]at c1
 have ht:tm (kj r)=[.int .i64 0,.vs (r.gen.map i1),.str (qj r),.bool false,.vs [],.vs []]:=rfl
 rw[ht]at c1 ⊢
 simp only[go_sem]
 refine call c1 [] ?_
 simp only[go_sem]
 done
end Go.Proofs.Am
