/- CThree. -/
import Derived.Test.YteakcpfdfglndaaGreatDoorCOne
set_option maxHeartbeats 1000000
set_option maxRecDepth 100000
set_option linter.unusedSimpArgs false
set_option linter.unusedVariables false
namespace Go.Proofs.Am
open Go Go.RowKit
open Go.Proofs
theorem mr(x m:Int):Den Tryz.prog 138 [.int .i64 x,.int .i64 m] [] (.bool (inB x 0 m)) [] []:=by
 refine aa Tryz.mixed Tryz.func138 rfl Tryz.call138 Tryz.ntmps138 (congrArg Array.toList Tryz.results138) (by simp) (by kernel_rfl) [] (exts:=[]) rfl rfl ?_
 by_cases h:0≤x
 ·simp only[go_sem,h,inB]
 ·simp only[go_sem,h,inB]
theorem adm(x:Int):Den Tryz.prog 137 [.int .i64 x] [] (.bool (inB x 0 63)) [] []:=by
 refine aa Tryz.mixed Tryz.func137 rfl Tryz.call137 Tryz.ntmps137 (congrArg Array.toList Tryz.results137) (by simp) (by kernel_rfl) [] (exts:=[]) rfl rfl ?_
 by_cases h:0≤x
 ·by_cases h':x<64
  ·have:inB x 0 63=true:=decide_eq_true (by omega)
   simp only[go_sem,h,h',this]
  ·have:inB x 0 63=false:=decide_eq_false (by omega)
   simp only[go_sem,h,h',this]
 ·have:inB x 0 63=false:=decide_eq_false (by omega)
  simp only[go_sem,h,this]
theorem aor(l:List Pn)(hl:big l.length):Den Tryz.prog 140 [.vs (l.map pn)] [] (.bool (jv l)) [] []:=by
 refine aa Tryz.mixed Tryz.func140 rfl Tryz.call140 Tryz.ntmps140 (congrArg Array.toList Tryz.results140) (by simp) (by kernel_rfl) [] (exts:=[]) rfl rfl ?_
 simp only[go_sem]
 refine loop Tryz.mixed 0 (fun i:Nat=>[(0,.vs (l.map pn)),(3,.int .i64 i)]) (fun i=>[]) (fun i=>i≤l.length∧∀j,j<i→me l j=true) (fun i=>l.length - i) (by kernel_rfl) ?_ ?_ ?_
 ·simp
 ·simp only[go_sem]
 ·rintro i ⟨hi,hp⟩
  by_cases hi':i<l.length
  ·have hlt:(i:Int)<(l.length:Int):=by omega
   simp only[go_sem,hlt,hi']
   refine call (adm (el l i).au) [] ?_
   cases e1:inB (el l i).au 0 63
   ·have hq:me l i=false:=by simp[me,e1]
    simp only[go_sem]
    exact⟨ae (by kernel_rfl),(bp hi' hq).symm⟩
   ·have tail: ∀(_:(decide (0<i)&&decide ((el l i).au≤(el l (i - 1)).au))=false),∀b,b=(inB (el l i).he 1 200&&decide ((el l i).di.length=32))→me l i=b:=fun h b hb=>by
     rw[hb,me,e1,h];simp
    by_cases e2:0<i
    ·have e2':(0:Int)<(i:Int):=by omega
     have e3:IntKind.i64.wrap ((i:Int) - 1)=((i - 1:Nat):Int):=by rw[ag]<;>omega
     have e4:i - 1<l.length:=by omega
     by_cases e5:(el l i).au≤(el l (i - 1)).au
     ·have hq:me l i=false:=by simp[me,e1,e2,e5]
      simp only[go_sem,e2',e3,e4,e5]
      exact⟨ae (by kernel_rfl),(bp hi' hq).symm⟩
     have tail:=tail (by simp[e5])
     by_cases e6:(el l i).he<1
     ·have hq:=tail false (by rw[inB,decide_eq_false (by omega)];rfl)
      simp only[go_sem,e2',e3,e4,e5,e6]
      exact⟨ae (by kernel_rfl),(bp hi' hq).symm⟩
     by_cases e6':200<(el l i).he
     ·have hq:=tail false (by rw[inB,decide_eq_false (by omega)];rfl)
      simp only[go_sem,e2',e3,e4,e5,e6,e6']
      exact⟨ae (by kernel_rfl),(bp hi' hq).symm⟩
     have e66:inB (el l i).he 1 200=true:=decide_eq_true (by omega)
     by_cases e7:(el l i).di.length=32
     ·have hq:=tail true (by simp[e66,e7])
      have e7':((el l i).di.length:Int)=32:=by omega
      simp only[go_sem,e2',e3,e4,e5,e6,e6',e7']
      refine⟨ae (by kernel_rfl),i+1,⟨⟨by omega,fun j hj=> ?_⟩,by omega⟩,by rw[ag]<;>omega⟩
      by_cases hji:j=i
      ·rw[hji];exact hq
      ·exact hp j (by omega)
     ·have hq:=tail false (by simp[e7])
      have e7': ¬((el l i).di.length:Int)=32:=by omega
      simp only[go_sem,e2',e3,e4,e5,e6,e6',e7']
      exact⟨ae (by kernel_rfl),(bp hi' hq).symm⟩
    ·have e2': ¬(0:Int)<(i:Int):=by omega
     have tail:=tail (by simp[e2])
     by_cases e6:(el l i).he<1
     ·have hq:=tail false (by rw[inB,decide_eq_false (by omega)];rfl)
      simp only[go_sem,e2',e6]
      exact⟨ae (by kernel_rfl),(bp hi' hq).symm⟩
     by_cases e6':200<(el l i).he
     ·have hq:=tail false (by rw[inB,decide_eq_false (by omega)];rfl)
      simp only[go_sem,e2',e6,e6']
      exact⟨ae (by kernel_rfl),(bp hi' hq).symm⟩
     have e66:inB (el l i).he 1 200=true:=decide_eq_true (by omega)
     by_cases e7:(el l i).di.length=32
     ·have hq:=tail true (by simp[e66,e7])
      have e7':((el l i).di.length:Int)=32:=by omega
      simp only[go_sem,e2',e6,e6',e7']
      refine⟨ae (by kernel_rfl),i+1,⟨⟨by omega,fun j hj=> ?_⟩,by omega⟩,by rw[ag]<;>omega⟩
      by_cases hji:j=i
      ·rw[hji];exact hq
      ·exact hp j (by omega)
     ·have hq:=tail false (by simp[e7])
      have e7': ¬((el l i).di.length:Int)=32:=by omega
      simp only[go_sem,e2',e6,e6',e7']
      exact⟨ae (by kernel_rfl),(bp hi' hq).symm⟩
  ·have hf: ¬((i:Int)<(l.length:Int)):=by omega
   have:i=l.length:=by omega
   subst this
   simp only[go_sem,hf]
   exact(aan hp).symm
def qe(s:Stm):Bool:=inB s.nu 0 199&&(gw s.a&&(gw s.b&&(gw s.c&&(!(s.li.any fun x=> !gw x)&&d9 s))))
theorem bct{l:List Int}{p:Int→Bool}{i:Nat}(hi:i<l.length)(h:p (el l i)=true):l.any p=true:=List.any_eq_true.2 ⟨_,gg hi,h⟩
theorem bcd{l:List Int}{p:Int→Bool}(h: ∀j,j<l.length→p (el l j)=false):l.any p=false:=by
 rw[List.any_eq_false]
 intro x hx
 obtain⟨j,hj,rfl⟩:=vo hx
 rw[h j hj];simp
theorem adp(x:Int):inB x 0 1099511627776=gw x:=rfl
theorem afc(s:Stm)(hl:big s.li.length):Den Tryz.prog 139 [.agg (sm s)] [] (.bool (qe s)) [] []:=by
 refine aa Tryz.mixed Tryz.func139 rfl Tryz.call139 Tryz.ntmps139 (congrArg Array.toList Tryz.results139) (by simp) (by kernel_rfl) [] (exts:=[]) rfl rfl ?_
 generalize hm:qe s=m
 simp only[go_sem]
 refine call (mr s.nu 199) [] ?_
 cases e1:inB s.nu 0 199
 ·simp only[go_sem]
  rw[←hm];simp[qe,e1]
 simp only[go_sem]
 refine call (mr s.a 1099511627776) [] ?_
 rw[adp]
 cases e2:gw s.a
 ·simp only[go_sem]
  rw[←hm];simp[qe,e1,e2]
 simp only[go_sem]
 refine call (mr s.b 1099511627776) [] ?_
 rw[adp]
 cases e3:gw s.b
 ·simp only[go_sem]
  rw[←hm];simp[qe,e1,e2,e3]
 simp only[go_sem]
 refine call (mr s.c 1099511627776) [] ?_
 rw[adp]
 cases e4:gw s.c
 ·simp only[go_sem]
  rw[←hm];simp[qe,e1,e2,e3,e4]
 simp only[go_sem]
 refine loop Tryz.mixed 0 (fun i:Nat=>[(1,.ptr 1 0),(3,.int .i64 i)]) (fun i=>[(1,.cells (sm s))]) (fun i=>i≤s.li.length∧∀j,j<i→gw (el s.li j)=true) (fun i=>s.li.length - i) (by kernel_rfl) ?_ ?_ ?_
 ·simp
 ·simp only[go_sem]
 ·rintro i ⟨hi,hp⟩
  by_cases hi':i<s.li.length
  ·have hlt:(i:Int)<(s.li.length:Int):=by omega
   simp only[go_sem,hlt,hi']
   refine call (mr (el s.li i) 1099511627776) [] ?_
   rw[adp]
   cases e5:gw (el s.li i)
   ·have:=bct (p:=fun x=> !gw x) hi' (by simp[e5])
    simp only[go_sem]
    rw[←hm];simp only[qe,e1,e2,e3,e4,this];simp
   ·simp only[go_sem]
    refine⟨i+1,⟨⟨by omega,fun j hj=> ?_⟩,by omega⟩,by rw[ag]<;>omega⟩
    by_cases hji:j=i
    ·rw[hji];exact e5
    ·exact hp j (by omega)
  ·have hf: ¬((i:Int)<(s.li.length:Int)):=by omega
   have:i=s.li.length:=by omega
   subst this
   have e5:=bcd (l:=s.li) (p:=fun x=> !gw x) fun j hj=>by simp[hp j hj]
   have hm:d9 s=m:=by rw[←hm];simp only[qe,e1,e2,e3,e4,e5];simp
   clear hp
   by_cases k1:s.kd=1
   ·have hmm:d9 s=(inB s.a 0 63&&decide (s.a≠s.au)&&inB s.b 1 3&&inB s.c s.ti 2147483648):=if_pos k1
    rw[hmm]at hm
    clear hmm
    simp only[go_sem,hf,k1]
    refine call (adm s.a) [] ?_
    cases f1:inB s.a 0 63
    ·rw[f1]at hm
     simp only[go_sem]
     rw[←hm];simp
    rw[f1]at hm
    by_cases f2:s.a=s.au
    ·simp only[go_sem,f2]
     rw[←hm];simp[f2]
    by_cases f3:1≤s.b
    rotate_left
    ·have:inB s.b 1 3=false:=decide_eq_false (by omega)
     simp only[go_sem,f2,f3]
     rw[←hm];simp[this]
    by_cases f4:s.b≤3
    rotate_left
    ·have:inB s.b 1 3=false:=decide_eq_false (by omega)
     simp only[go_sem,f2,f3,f4]
     rw[←hm];simp[this]
    have h5:inB s.b 1 3=true:=decide_eq_true (by omega)
    by_cases f5:s.ti≤s.c
    rotate_left
    ·have:inB s.c s.ti 2147483648=false:=decide_eq_false (by omega)
     simp only[go_sem,f2,f3,f4,f5]
     rw[←hm];simp[this]
    by_cases f6:s.c≤2147483648
    ·have:inB s.c s.ti 2147483648=true:=decide_eq_true (by omega)
     simp only[go_sem,f2,f3,f4,f5,f6]
     rw[←hm];simp[this,h5,f2]
    ·have:inB s.c s.ti 2147483648=false:=decide_eq_false (by omega)
     simp only[go_sem,f2,f3,f4,f5,f6]
     rw[←hm];simp[this]
   by_cases k2:s.kd=2
   ·have hmm:d9 s=(inB s.a 0 199&&decide (s.b=0)&&decide (s.c=0)):=by rw[d9,if_neg k1,if_pos k2]
    rw[hmm]at hm
    clear hmm
    simp only[go_sem,hf,k1,k2]
    refine call (mr s.a 199) [] ?_
    cases f1:inB s.a 0 199
    ·rw[f1]at hm
     simp only[go_sem]
     rw[←hm];simp
    rw[f1]at hm
    by_cases f2:s.b=0
    ·simp only[go_sem,f2]
     rw[←hm];simp[f2]
    ·simp only[go_sem,f2]
     rw[←hm];simp[f2]
   by_cases k3:s.kd=3
   ·have hmm:d9 s=(decide (s.a=0)&&decide (s.b=0)&&decide (s.c=0)):=by rw[d9,if_neg k1,if_neg k2,if_pos k3]
    rw[hmm]at hm
    clear hmm
    by_cases f1:s.a=0
    ·by_cases f2:s.b=0
     ·simp only[go_sem,hf,k1,k2,k3,f1,f2]
      rw[←hm];simp[f1,f2]
     ·simp only[go_sem,hf,k1,k2,k3,f1,f2]
      rw[←hm];simp[f2]
    ·simp only[go_sem,hf,k1,k2,k3,f1]
     rw[←hm];simp[f1]
   ·have hmm:d9 s=true:=by rw[d9,if_neg k1,if_neg k2,if_neg k3]
    simp only[go_sem,hf,k1,k2,k3]
    rw[←hm];exact hmm.symm
theorem a43{s:Stm}(h:qe s=true):(!inB s.nu 0 199|| !gw s.a|| !gw s.b|| !gw s.c|| !d9 s||s.li.any fun x=> !gw x)=false:=by
 simp only[qe,Bool.and_eq_true,Bool.not_eq_true']at h
 obtain⟨h1,h2,h3,h4,h5,h6⟩:=h
 simp only[h1,h2,h3,h4,h5,h6];rfl
theorem a4y{s:Stm}(h:qe s=false):(!inB s.nu 0 199|| !gw s.a|| !gw s.b|| !gw s.c|| !d9 s||s.li.any fun x=> !gw x)=true:=by
 cases hh:(!inB s.nu 0 199|| !gw s.a|| !gw s.b|| !gw s.c|| !d9 s||s.li.any fun x=> !gw x)with
 |true=>rfl
 |false=>
  simp only[Bool.or_eq_false_iff,Bool.not_eq_false']at hh
  obtain⟨⟨⟨⟨⟨h1,h2⟩,h3⟩,h4⟩,h5⟩,h6⟩:=hh
  rw[qe,h1,h2,h3,h4,h5,h6]at h
  cases h
theorem mb(s:Stm)(hs:gx s):Den Tryz.prog 100 [.agg (sm s)] [] (.int .i64 (aj s)) [] []:=by
 obtain⟨hbl,hbp⟩:=hs
 refine aa Tryz.mixed Tryz.func100 rfl Tryz.call100 Tryz.ntmps100 (congrArg Array.toList Tryz.results100) (by simp) (by kernel_rfl) [] (exts:=[]) rfl rfl ?_
 generalize hm:aj s=m
 have cn:=afc s hbl
 rw[kz]at cn
 have cp:=aor s.pins hbp
 simp only[go_sem]
 refine call (adm s.au) [] ?_
 cases e1:inB s.au 0 63
 ·simp only[go_sem]
  rw[←hm];simp only[aj,e1];rfl
 by_cases k1:s.kd<1
 ·have ek:(!inB s.kd 1 3&& !inB s.kd 10 31)=true:=by rw[inB,inB,decide_eq_false (by omega),decide_eq_false (by omega)];rfl
  simp only[go_sem,k1]
  rw[←hm];simp only[aj,e1,ek];rfl
 by_cases kk:s.kd≤3
 ·have k2: ¬3<s.kd:=by omega
  have k4: ¬31<s.kd:=by omega
  have ek:(!inB s.kd 1 3&& !inB s.kd 10 31)=false:=by rw[inB,decide_eq_true (by omega)];rfl
  simp only[go_sem,k1,k2,k4,kk]
  refine call (mr s.ti 2147483648) [] ?_
  cases e4:inB s.ti 0 2147483648
  ·simp only[go_sem]
   rw[←hm];simp[aj,e1,ek,e4]
  simp only[go_sem]
  refine call cn [] ?_
  cases e5:qe s
  ·have e5':=a4y e5
   simp only[go_sem]
   rw[←hm];simp only[aj,e1,ek,e4,e5'];rfl
  have e5':=a43 e5
  by_cases l1:(64:Int)<(s.li.length:Int)
  ·have elen:(decide (64<s.li.length)||decide (64<s.pins.length)||decide (4096<s.body.length))=true:=by simp;omega
   simp only[go_sem,l1]
   rw[←hm];simp only[aj,e1,ek,e4,e5',elen];rfl
  by_cases l2:(64:Int)<(s.pins.length:Int)
  ·have elen:(decide (64<s.li.length)||decide (64<s.pins.length)||decide (4096<s.body.length))=true:=by simp;omega
   simp only[go_sem,l1,l2]
   rw[←hm];simp only[aj,e1,ek,e4,e5',elen];rfl
  by_cases l3:(4096:Int)<(s.body.length:Int)
  ·have elen:(decide (64<s.li.length)||decide (64<s.pins.length)||decide (4096<s.body.length))=true:=by simp;omega
   simp only[go_sem,l1,l2,l3]
   rw[←hm];simp only[aj,e1,ek,e4,e5',elen];rfl
  have elen:(decide (64<s.li.length)||decide (64<s.pins.length)||decide (4096<s.body.length))=false:=by simp;omega
  have hm:(if((decide (s.nu=0)&&decide (s.prev≠[]))||(decide (0<s.nu)&&decide (s.prev.length≠32))|| !jv s.pins||(decide (s.kd≤3)&&decide (0<s.li.length+s.pins.length+s.body.length)))=true then 1
   else(0:Int))=m:=by rw[←hm];simp only[aj,e1,ek,e4,e5',elen];rfl
  by_cases n0:s.nu=0
  ·by_cases n1:s.prev=[]
   ·skip
    simp only[go_sem,l1,l2,l3,n0,n1]
    refine call cp [] ?_
    cases e14:jv s.pins
    ·simp only[go_sem]
     rw[←hm];simp[e14]
    by_cases g1:(0:Int)<(s.li.length:Int)
    ·simp only[go_sem,kk,g1]
     rw[if_pos (by simp[kk];omega)]at hm
     exact hm
    by_cases g2:(0:Int)<(s.pins.length:Int)
    ·simp only[go_sem,kk,g1,g2]
     rw[if_pos (by simp[kk];omega)]at hm
     exact hm
    by_cases g3:s.body=[]
    ·simp only[go_sem,kk,g1,g2,g3]
     have g4:s.body.length=0:=by rw[g3];rfl
     have elz:decide (0<s.li.length+s.pins.length+s.body.length)=false:=decide_eq_false (by omega)
     rw[elz,e14,if_neg (by simp[n0,n1])]at hm
     exact hm
    ·have:0<s.body.length:=List.length_pos_iff.2 g3
     simp only[go_sem,kk,g1,g2,g3]
     rw[if_pos (by simp[kk];omega)]at hm
     exact hm
   ·simp only[go_sem,l1,l2,l3,n0,n1]
    rw[if_pos (by simp[n0,n1])]at hm
    exact hm
  by_cases n2:0<s.nu
  ·by_cases n3:(s.prev.length:Int)=32
   ·have n3':s.prev.length=32:=by omega
    simp only[go_sem,l1,l2,l3,n0,n2,n3]
    refine call cp [] ?_
    cases e14:jv s.pins
    ·simp only[go_sem]
     rw[←hm];simp[e14]
    by_cases g1:(0:Int)<(s.li.length:Int)
    ·simp only[go_sem,kk,g1]
     rw[if_pos (by simp[kk];omega)]at hm
     exact hm
    by_cases g2:(0:Int)<(s.pins.length:Int)
    ·simp only[go_sem,kk,g1,g2]
     rw[if_pos (by simp[kk];omega)]at hm
     exact hm
    by_cases g3:s.body=[]
    ·simp only[go_sem,kk,g1,g2,g3]
     have g4:s.body.length=0:=by rw[g3];rfl
     have elz:decide (0<s.li.length+s.pins.length+s.body.length)=false:=decide_eq_false (by omega)
     rw[elz,e14,if_neg (by simp[n0,n2,n3'])]at hm
     exact hm
    ·have:0<s.body.length:=List.length_pos_iff.2 g3
     simp only[go_sem,kk,g1,g2,g3]
     rw[if_pos (by simp[kk];omega)]at hm
     exact hm
   ·have n3': ¬s.prev.length=32:=by omega
    simp only[go_sem,l1,l2,l3,n0,n2,n3]
    rw[if_pos (by simp[n2,n3'])]at hm
    exact hm
  simp only[go_sem,l1,l2,l3,n0,n2]
  refine call cp [] ?_
  cases e14:jv s.pins
  ·simp only[go_sem]
   rw[←hm];simp[e14]
  by_cases g1:(0:Int)<(s.li.length:Int)
  ·simp only[go_sem,kk,g1]
   rw[if_pos (by simp[kk];omega)]at hm
   exact hm
  by_cases g2:(0:Int)<(s.pins.length:Int)
  ·simp only[go_sem,kk,g1,g2]
   rw[if_pos (by simp[kk];omega)]at hm
   exact hm
  by_cases g3:s.body=[]
  ·simp only[go_sem,kk,g1,g2,g3]
   have g4:s.body.length=0:=by rw[g3];rfl
   have elz:decide (0<s.li.length+s.pins.length+s.body.length)=false:=decide_eq_false (by omega)
   rw[elz,e14,if_neg (by simp[n0,n2])]at hm
   exact hm
  ·have:0<s.body.length:=List.length_pos_iff.2 g3
   simp only[go_sem,kk,g1,g2,g3]
   rw[if_pos (by simp[kk];omega)]at hm
   exact hm
 have k2:3<s.kd:=by omega
 by_cases k3:s.kd<10
 ·have ek:(!inB s.kd 1 3&& !inB s.kd 10 31)=true:=by rw[inB,inB,decide_eq_false (by omega),decide_eq_false (by omega)];rfl
  simp only[go_sem,k1,k2,k3]
  rw[←hm];simp only[aj,e1,ek];rfl
 by_cases k4:31<s.kd
 ·have ek:(!inB s.kd 1 3&& !inB s.kd 10 31)=true:=by rw[inB,inB,decide_eq_false (by omega),decide_eq_false (by omega)];rfl
  simp only[go_sem,k1,k2,k3,k4]
  rw[←hm];simp only[aj,e1,ek];rfl
 have ek:(!inB s.kd 1 3&& !inB s.kd 10 31)=false:=by rw[inB,inB,decide_eq_false (by omega),decide_eq_true (by omega)];rfl
 simp only[go_sem,k1,k2,k3,k4]
 refine call (mr s.ti 2147483648) [] ?_
 cases e4:inB s.ti 0 2147483648
 ·simp only[go_sem]
  rw[←hm];simp[aj,e1,ek,e4]
 simp only[go_sem]
 refine call cn [] ?_
 cases e5:qe s
 ·have e5':=a4y e5
  simp only[go_sem]
  rw[←hm];simp only[aj,e1,ek,e4,e5'];rfl
 have e5':=a43 e5
 by_cases l1:(64:Int)<(s.li.length:Int)
 ·have elen:(decide (64<s.li.length)||decide (64<s.pins.length)||decide (4096<s.body.length))=true:=by simp;omega
  simp only[go_sem,l1]
  rw[←hm];simp only[aj,e1,ek,e4,e5',elen];rfl
 by_cases l2:(64:Int)<(s.pins.length:Int)
 ·have elen:(decide (64<s.li.length)||decide (64<s.pins.length)||decide (4096<s.body.length))=true:=by simp;omega
  simp only[go_sem,l1,l2]
  rw[←hm];simp only[aj,e1,ek,e4,e5',elen];rfl
 by_cases l3:(4096:Int)<(s.body.length:Int)
 ·have elen:(decide (64<s.li.length)||decide (64<s.pins.length)||decide (4096<s.body.length))=true:=by simp;omega
  simp only[go_sem,l1,l2,l3]
  rw[←hm];simp only[aj,e1,ek,e4,e5',elen];rfl
 have elen:(decide (64<s.li.length)||decide (64<s.pins.length)||decide (4096<s.body.length))=false:=by simp;omega
 have hm:(if((decide (s.nu=0)&&decide (s.prev≠[]))||(decide (0<s.nu)&&decide (s.prev.length≠32))|| !jv s.pins||(decide (s.kd≤3)&&decide (0<s.li.length+s.pins.length+s.body.length)))=true then 1
  else(0:Int))=m:=by rw[←hm];simp only[aj,e1,ek,e4,e5',elen];rfl
 by_cases n0:s.nu=0
 ·by_cases n1:s.prev=[]
  ·skip
   simp only[go_sem,l1,l2,l3,n0,n1]
   refine call cp [] ?_
   cases e14:jv s.pins
   ·simp only[go_sem]
    rw[←hm];simp[e14]
   simp only[go_sem,kk]
   rw[if_neg (by simp[kk,e14,n0,n1])]at hm
   exact hm
  ·simp only[go_sem,l1,l2,l3,n0,n1]
   rw[if_pos (by simp[n0,n1])]at hm
   exact hm
 by_cases n2:0<s.nu
 ·by_cases n3:(s.prev.length:Int)=32
  ·have n3':s.prev.length=32:=by omega
   simp only[go_sem,l1,l2,l3,n0,n2,n3]
   refine call cp [] ?_
   cases e14:jv s.pins
   ·simp only[go_sem]
    rw[←hm];simp[e14]
   simp only[go_sem,kk]
   rw[if_neg (by simp[kk,e14,n0,n2,n3'])]at hm
   exact hm
  ·have n3': ¬s.prev.length=32:=by omega
   simp only[go_sem,l1,l2,l3,n0,n2,n3]
   rw[if_pos (by simp[n2,n3'])]at hm
   exact hm
 simp only[go_sem,l1,l2,l3,n0,n2]
 refine call cp [] ?_
 cases e14:jv s.pins
 ·simp only[go_sem]
  rw[←hm];simp[e14]
 simp only[go_sem,kk]
 rw[if_neg (by simp[kk,e14,n0,n2])]at hm
 exact hm
theorem aq7(s:Stm)(hs:okS s):Den Tryz.prog 100 [.agg (sm s)] [] (.int .i64 (aj s)) [] []:=mb s hs.big
theorem mg(s:Stm)(hs:okS s):Den Tryz.prog 101 [.agg (sm s)] [] (.bool (decide (s.sk=s.au∧s.sd=dig s))) [] []:=by
 refine aa Tryz.mixed Tryz.func101 rfl Tryz.call101 Tryz.ntmps101 (congrArg Array.toList Tryz.results101) (by simp) (by kernel_rfl) [] (exts:=[]) rfl rfl ?_
 by_cases h1:s.sk=s.au
 ·simp only[go_sem,h1]
  refine call (alt s hs) [] ?_
  simp only[go_sem,h1]
  exact ae (by kernel_rfl)
 ·simp only[go_sem,h1]
  exact ae (by kernel_rfl)
structure Ct where
 li:List Int
 pi:List Pn
deriving Inhabited,DecidableEq
def ct(x:Ct):List PV:=[.vs (x.li.map i1),.vs (x.pi.map pn)]
theorem gk(x:Ct):ct x=[.vs (x.li.map i1),.vs (x.pi.map pn)]:=(rfl)
attribute [go_sem] gk
def uz(x:Ct):Prop:=x.li.length≤1000000∧(x.pi.flatMap pnB).length≤100000000
def arl(l:List Pn):Stm:=⟨0,0,[],0,10,0,0,0,[],l,[],0,[]⟩
theorem auh{x:Ct}(h:uz x):okS (arl x.pi):=by
 obtain⟨h1,h2⟩:=h
 simp only[arl,okS,stB,qj,ww,hdB,List.length_append,db,aq,er,l5,List.length_cons,List.length_nil]
 omega
def abu(k:Int)(l:List Int):Bool:=
 if k=1 then decide (l.length=2∧0≤el l 0∧el l 0<4294967296∧0≤el l 1∧el l 1<4294967296)else decide (l.length=1∧(el l 0=0∨el l 0=1))
def fq(c:Cs)(x:Ct):Bool:=dl c&&(decide (aj (arl x.pi)=0)&&abu c.kd x.li)
theorem agf(c:Cs)(x:Ct)(hx:uz x):Den Tryz.prog 78 [.agg (cs c),.agg (ct x)] [] (.bool (fq c x)) [] []:=by
 refine aa Tryz.mixed Tryz.func78 rfl Tryz.call78 Tryz.ntmps78 (congrArg Array.toList Tryz.results78) (by simp) (by kernel_rfl) [] (exts:=[]) rfl rfl ?_
 have c1:=j9 c
 rw[bd]at c1
 have c2:=aq7 (arl x.pi) (auh hx)
 rw[show sm (arl x.pi)=[.int .i64 0,.int .i64 0,.str [],.int .i64 0,.int .i64 10,.int .i64 0,.int .i64 0,.int .i64 0,.vs [],.vs (x.pi.map pn),.str [],.int .i64 0,.str []] from rfl]at c2
 generalize hm:fq c x=m
 simp only[go_sem]
 refine call c1 [] ?_
 cases a1:dl c
 ·simp only[go_sem]
  rw[←hm];simp[fq,a1]
 simp only[go_sem]
 refine call c2 [] ?_
 by_cases a2:aj (arl x.pi)=0
 rotate_left
 ·simp only[go_sem,a2]
  rw[←hm];simp[fq,a2]
 have hm:abu c.kd x.li=m:=by rw[←hm];simp[fq,a1,a2]
 by_cases k1:c.kd=1
 ·have hm:decide (x.li.length=2∧0≤el x.li 0∧el x.li 0<4294967296∧0≤el x.li 1∧el x.li 1<4294967296)=m:=by rw[←hm,abu,if_pos k1]
  by_cases g1:(x.li.length:Int)=2
  rotate_left
  ·simp only[go_sem,a2,k1,g1]
   rw[←hm];exact(decide_eq_false (by omega)).symm
  have h0:0<x.li.length:=by omega
  have h1:1<x.li.length:=by omega
  have h0':(0:Int)<(x.li.length:Int):=by omega
  have h1':(1:Int)<(x.li.length:Int):=by omega
  by_cases g2:0≤el x.li 0
  rotate_left
  ·simp only[go_sem,a2,k1,g1,h0,h1,h0',h1',g2]
   rw[←hm];exact(decide_eq_false (by omega)).symm
  by_cases g3:el x.li 0<4294967296
  rotate_left
  ·simp only[go_sem,a2,k1,g1,h0,h1,h0',h1',g2,g3]
   rw[←hm];exact(decide_eq_false (by omega)).symm
  by_cases g4:0≤el x.li 1
  rotate_left
  ·simp only[go_sem,a2,k1,g1,h0,h1,h0',h1',g2,g3,g4]
   rw[←hm];exact(decide_eq_false (by omega)).symm
  simp only[go_sem,a2,k1,g1,h0,h1,h0',h1',g2,g3,g4]
  rw[←hm]
  exact decide_eq_decide.2 (by omega)
 ·have hm:decide (x.li.length=1∧(el x.li 0=0∨el x.li 0=1))=m:=by rw[←hm,abu,if_neg k1]
  by_cases g1:(x.li.length:Int)=1
  rotate_left
  ·simp only[go_sem,a2,k1,g1]
   rw[←hm];exact(decide_eq_false (by omega)).symm
  have h0:0<x.li.length:=by omega
  have h0':(0:Int)<(x.li.length:Int):=by omega
  by_cases g2:el x.li 0=0
  ·simp only[go_sem,a2,k1,g1,h0,h0',g2]
   rw[←hm];exact(decide_eq_true (by omega)).symm
  ·simp only[go_sem,a2,k1,g1,h0,h0',g2]
   rw[←hm]
   exact decide_eq_decide.2 (by omega)
def atg(c:Cs):Int:=if dl c then c.kd+16*c.ro else 0
theorem a2f(c:Cs):Den Tryz.prog 79 [.agg (cs c)] [] (.int .i64 (atg c)) [] []:=by
 refine aa Tryz.mixed Tryz.func79 rfl Tryz.call79 Tryz.ntmps79 (congrArg Array.toList Tryz.results79) (by simp) (by kernel_rfl) [] (exts:=[]) rfl rfl ?_
 have c1:=j9 c
 rw[bd]at c1
 simp only[go_sem]
 refine call c1 [] ?_
 cases a1:dl c
 ·simp only[go_sem]
  rw[atg,a1];rfl
 ·have hc:=of_decide_eq_true a1
  have e1:IntKind.i64.wrap (16*c.ro)=16*c.ro:=by rw[ag]<;>omega
  have e2:IntKind.i64.wrap (c.kd+16*c.ro)=c.kd+16*c.ro:=by rw[ag]<;>omega
  simp only[go_sem,e1,e2]
  rw[atg,a1];rfl
def dz(c:Cs)(x:Ct):Drf×Int:=if dl c=false then(noD,41)else if fq c x=false then(noD,42)else(⟨10,c.ep,c.kd+16*c.ro,c.su,x.li,x.pi⟩,0)
theorem aoz(c:Cs)(x:Ct)(hx:uz x):Den Tryz.prog 49 [.agg (cs c),.agg (ct x)] [] (.tup [.agg (dr (dz c x).1),.int .i64 (dz c x).2]) [] []:=by
 refine aa Tryz.mixed Tryz.func49 rfl Tryz.call49 Tryz.ntmps49 (congrArg Array.toList Tryz.results49) (by simp) (by kernel_rfl) [] (exts:=[]) rfl rfl ?_
 have c1:=j9 c
 rw[bd]at c1
 have c2:=agf c x hx
 rw[bd,gk]at c2
 have c3:=a2f c
 rw[bd]at c3
 have hxp:=nf x.pi
 obtain⟨hx1,hx2⟩:=hx
 simp only[go_sem]
 refine call c1 [] ?_
 cases a1:dl c
 ·have e1:dz c x=(noD,41):=by rw[dz,if_pos a1]
  rw[e1]
  simp only[go_sem,noD]
  all_goals rfl
 simp only[go_sem]
 refine call c2 [] ?_
 cases a2:fq c x
 ·have e1:dz c x=(noD,42):=by rw[dz,if_neg (by simp[a1]),if_pos a2]
  rw[e1]
  simp only[go_sem,noD]
  all_goals rfl
 have e1:dz c x=(⟨10,c.ep,c.kd+16*c.ro,c.su,x.li,x.pi⟩,0):=by rw[dz,if_neg (by simp[a1]),if_neg (by simp[a2])]
 rw[e1]
 have e2:atg c=c.kd+16*c.ro:=by rw[atg,a1];rfl
 rw[e2]at c3
 simp only[go_sem]
 refine call c3 [] ?_
 simp only[go_sem]
 exact⟨by omega,by omega,ae (by kernel_rfl)⟩
def a99(d:Drf):Prop:=d.li.length≤1000000∧(d.pins.flatMap pnB).length≤100000000
theorem aff(au nu ti:Int)(d:Drf)(hd:a99 d):Den Tryz.prog 27 [.int .i64 au,.int .i64 nu,.int .i64 ti,.agg (dr d)] [] (.agg (sm (gn au nu ti d))) [] []:=by
 refine aa Tryz.mixed Tryz.func27 rfl Tryz.call27 Tryz.ntmps27 (congrArg Array.toList Tryz.results27) (by simp) (by kernel_rfl) [] (exts:=[]) rfl rfl ?_
 have hxp:=nf d.pins
 obtain⟨h1,h2⟩:=hd
 have hok: ∀p:List UInt8,p.length≤32→okS ⟨au,nu,p,ti,d.kd,d.a,d.b,d.c,d.li,d.pins,[],0,[]⟩:=fun p hp=>by
  simp only[okS,stB,qj,ww,hdB,List.length_append,db,aq,er,l5,List.length_cons,List.length_nil]
  omega
 by_cases hn:0<nu
 ·have he:List.replicate 32 [zf (PV.int IntKind.u8 0)]=(List.replicate 32 (0:UInt8)).map u8:=by rw[List.map_replicate];rfl
  have hs:gn au nu ti d=nw ⟨au,nu,List.replicate 32 0,ti,d.kd,d.a,d.b,d.c,d.li,d.pins,[],0,[]⟩:=by rw[gn,if_pos hn]
  rw[hs]
  simp only[go_sem,hn]
  refine⟨by omega,by omega,ae (by kernel_rfl),_,he,?_⟩
  refine call (uw ⟨au,nu,List.replicate 32 0,ti,d.kd,d.a,d.b,d.c,d.li,d.pins,[],0,[]⟩ (hok _ (by simp))) [] ?_
  simp only[go_sem]
 ·have hs:gn au nu ti d=nw ⟨au,nu,[],ti,d.kd,d.a,d.b,d.c,d.li,d.pins,[],0,[]⟩:=by rw[gn,if_neg hn]
  rw[hs]
  simp only[go_sem,hn]
  refine⟨by omega,by omega,ae (by kernel_rfl),?_⟩
  refine call (uw ⟨au,nu,[],ti,d.kd,d.a,d.b,d.c,d.li,d.pins,[],0,[]⟩ (hok _ (by simp))) [] ?_
  simp only[go_sem]
theorem agn(c:Cs)(x:Ct)(hx:uz x):a99 (dz c x).1:=by
 unfold dz
 split
 ·exact⟨by simp[noD],by simp[noD]⟩
 split
 ·exact⟨by simp[noD],by simp[noD]⟩
 ·exact hx
def vt(au nu:Int)(c:Cs)(x:Ct):Stm:=gn au nu 1 (dz c x).1
theorem a2c(au nu:Int)(c:Cs)(x:Ct)(hx:uz x):Den Tryz.prog 26 [.int .i64 au,.int .i64 nu,.agg (cs c),.agg (ct x)] [] (.agg (sm (vt au nu c x))) [] []:=by
 refine aa Tryz.mixed Tryz.func26 rfl Tryz.call26 Tryz.ntmps26 (congrArg Array.toList Tryz.results26) (by simp) (by kernel_rfl) [] (exts:=[]) rfl rfl ?_
 have c2:=aoz c x hx
 rw[bd,gk]at c2
 have c3:=aff au nu 1 (dz c x).1 (agn c x hx)
 have hv:vt au nu c x=gn au nu 1 (dz c x).1:=rfl
 rw[hv]
 generalize hd:(dz c x).1=d at*
 generalize gn au nu 1 d=s at*
 simp only[go_sem]
 refine call c2 [] ?_
 rw[asg]at c3
 simp only[go_sem]
 refine call c3 [] ?_
 simp only[go_sem]
def kr(l:List Int)(p:Nat)(c:Cs):Ct×Nat:=
 if c.kd≠1 then(⟨[ai l p 2],[]⟩,dgo l p 1)
 else if ai l (dgo l p 2) 4=3 then(⟨[1+ai l p 127,el ([0,0,1]:List Int) (ai l (dgo l p 1) 3).toNat],[⟨ai l (dgo l p 3) 4,1+ai l (dgo l p 4) 3,bbz l (dgo l p 5)⟩]⟩,dgo l p 7)
 else(⟨[1+ai l p 127,el ([0,0,1]:List Int) (ai l (dgo l p 1) 3).toNat],[]⟩,dgo l p 3)
theorem a05(l:List Int)(p:Nat)(c:Cs):uz (kr l p c).1:=by
 unfold kr
 split
 ·exact⟨by simp,by simp⟩
 split
 ·exact⟨by simp,by simp[pnB,aq,er,a0j]⟩
 ·exact⟨by simp,by simp⟩
theorem alp{l:List Int}{p:Nat}(hp:p≤l.length)(c:Cs):(kr l p c).2≤l.length:=by
 unfold kr
 split
 ·exact dx hp _
 split
 ·exact dx hp _
 ·exact dx hp _
theorem ah6(l:List Int)(p:Nat)(c:Cs)(hl:big l.length)(hp:p≤l.length):Den Tryz.prog 32 [.ptr 1000000 0,.agg (cs c)] [xa l p] (.agg (ct (kr l p c).1)) [] [xa l (kr l p c).2]:=by
 refine aa Tryz.mixed Tryz.func32 rfl Tryz.call32 Tryz.ntmps32 (congrArg Array.toList Tryz.results32) (by simp) (by kernel_rfl) [] (exts:=[1000000]) rfl rfl ?_
 have hp1:=dx hp 1
 have hp2:=dx hp 2
 have hp3:=dx hp 3
 have hp4:=dx hp 4
 have hp5:=dx hp 5
 have e0:ady l p=dgo l p 1:=rfl
 by_cases k1:c.kd=1
 rotate_left
 ·have hm:kr l p c=(⟨[ai l p 2],[]⟩,dgo l p 1):=by rw[kr,if_pos k1]
  rw[hm]
  simp only[go_sem,k1]
  refine call (bm l p 2 hl hp (by omega)) [1000000] ?_
  simp only[go_sem,e0]
 have hm:kr l p c=if ai l (dgo l p 2) 4=3 then(⟨[1+ai l p 127,el ([0,0,1]:List Int) (ai l (dgo l p 1) 3).toNat],[⟨ai l (dgo l p 3) 4,1+ai l (dgo l p 4) 3,bbz l (dgo l p 5)⟩]⟩,dgo l p 7)
  else(⟨[1+ai l p 127,el ([0,0,1]:List Int) (ai l (dgo l p 1) 3).toNat],[]⟩,dgo l p 3):=by rw[kr,if_neg (by simp[k1])]
 generalize kr l p c=m at*
 have b1:=bi (l:=l) (p:=p) (n:=127) (by omega)
 have w1:IntKind.i64.wrap (1+ai l p 127)=1+ai l p 127:=by rw[ag]<;>omega
 simp only[go_sem,k1]
 refine call (bm l p 127 hl hp (by omega)) [1000000] ?_
 simp only[go_sem,e0]
 refine call (qt l (dgo l p 1) [0,0,1] hl hp1 (by simp) (by simp[big])) [1000000] ?_
 simp only[go_sem,bz]
 refine call (wx l (dgo l p 2) 4 hl hp2 (by omega) (by omega)) [1000000] ?_
 cases h:decide (ai l (dgo l p 2) 4=4 - 1)
 ·have hc: ¬ai l (dgo l p 2) 4=3:=of_decide_eq_false h
  rw[if_neg hc]at hm
  subst hm
  simp only[go_sem,bz,w1]
 ·have hc:ai l (dgo l p 2) 4=3:=of_decide_eq_true h
  rw[if_pos hc]at hm
  subst hm
  simp only[go_sem,bz]
  refine call (bm l (dgo l p 3) 4 hl hp3 (by omega)) [1000000] ?_
  simp only[go_sem,bz]
  refine call (bm l (dgo l p 4) 3 hl hp4 (by omega)) [1000000] ?_
  have b2:=bi (l:=l) (p:=dgo l p 4) (n:=3) (by omega)
  have w2:IntKind.i64.wrap (1+ai l (dgo l p 4) 3)=1+ai l (dgo l p 4) 3:=by rw[ag]<;>omega
  simp only[go_sem,bz]
  refine call (an9 l (dgo l p 5) hl hp5) [1000000] ?_
  simp only[go_sem,bz,w1,w2]
  exact⟨by decide,rfl⟩
structure Tm where
 ep:Int
 ros:List Int
 bea:List UInt8
 dec:Bool
 nx:Ct
deriving Inhabited,DecidableEq
def tm(t:Tm):List PV:=[.int .i64 t.ep,.vs (t.ros.map i1),.str t.bea,.bool t.dec,.vs (t.nx.li.map i1),.vs (t.nx.pi.map pn)]
theorem fy(t:Tm):tm t=[.int .i64 t.ep,.vs (t.ros.map i1),.str t.bea,.bool t.dec,.vs (t.nx.li.map i1),.vs (t.nx.pi.map pn)]:=(rfl)
attribute [go_sem] fy
def qd(s:List Int)(i:Nat):Bool:=decide (0≤el s i∧el s i<64∧el s i∉s.take i)
def ckS(c:Cs)(s:List Int):Int:=if dl c=false then 41 else if s.length<1∨9<s.length then 44 else if ai4 (qd s) s.length then 0 else 44
theorem w5(c:Cs)(s:List Int)(hs:big s.length):Den Tryz.prog 105 [.agg (cs c),.vs (s.map i1)] [] (.int .i64 (ckS c s)) [] []:=by
 refine aa Tryz.mixed Tryz.func105 rfl Tryz.call105 Tryz.ntmps105 (congrArg Array.toList Tryz.results105) (by simp) (by kernel_rfl) [] (exts:=[]) rfl rfl ?_
 have c1:=j9 c
 rw[bd]at c1
 generalize hm:ckS c s=m
 simp only[go_sem]
 refine call c1 [] ?_
 cases a1:dl c
 ·simp only[go_sem]
  rw[←hm,ckS,if_pos a1]
 rw[ckS,if_neg (by simp[a1])]at hm
 by_cases a2:(s.length:Int)<1
 ·simp only[go_sem,a2]
  rw[if_pos (.inl (by omega))]at hm
  exact hm
 by_cases a3:9<(s.length:Int)
 ·simp only[go_sem,a2,a3]
  rw[if_pos (.inr (by omega))]at hm
  exact hm
 rw[if_neg (by omega)]at hm
 have hbad:ai4 (qd s) s.length=false→m=44:=fun h=>by rw[←hm,h];rfl
 have hgood:ai4 (qd s) s.length=true→m=0:=fun h=>by rw[←hm,h];rfl
 simp only[go_sem,a2,a3]
 refine loop Tryz.mixed 0 (fun i:Nat=>[(1,.vs (s.map i1)),(5,.int .i64 i)]) (fun i=>[]) (fun i=>i≤s.length∧∀j,j<i→qd s j=true) (fun i=>s.length - i) (by kernel_rfl) ?_ ?_ ?_
 ·simp
 ·simp only[go_sem]
 ·rintro i ⟨hi,hp⟩
  by_cases hi':i<s.length
  ·have hlt:(i:Int)<(s.length:Int):=by omega
   by_cases b1:el s i<0
   ·have hq:qd s i=false:=decide_eq_false (by omega)
    simp only[go_sem,hlt,hi',b1]
    exact⟨ae (by kernel_rfl),(hbad (gz hi' hq)).symm⟩
   by_cases b2:64≤el s i
   ·have hq:qd s i=false:=decide_eq_false (by omega)
    simp only[go_sem,hlt,hi',b1,b2]
    exact⟨ae (by kernel_rfl),(hbad (gz hi' hq)).symm⟩
   simp only[go_sem,hlt,hi',b1,b2]
   refine⟨⟨by omega,by omega⟩,call (za (s.take i) (el s i) (by rw[List.length_take];simp only[big]at*;omega)) [] ?_⟩
   by_cases b3:el s i∈s.take i
   ·have hq:qd s i=false:=decide_eq_false (by simp[b3])
    simp only[go_sem,b3]
    exact⟨ae (by kernel_rfl),(hbad (gz hi' hq)).symm⟩
   ·have hq:qd s i=true:=decide_eq_true ⟨by omega,by omega,b3⟩
    simp only[go_sem,b3]
    exact⟨ae (by kernel_rfl),i+1,⟨⟨by omega,eb hp hq⟩,by omega⟩,by rw[ag]<;>omega⟩
  ·have hf: ¬((i:Int)<(s.length:Int)):=by omega
   have:i=s.length:=by omega
   subst this
   simp only[go_sem,hf]
   exact(hgood (sj hp)).symm
theorem aq1(c:Cs):Den Tryz.prog 71 [.vs [],.agg (cs c)] [] (.vs []) [] []:=by
 refine aa Tryz.mixed Tryz.func71 rfl Tryz.call71 Tryz.ntmps71 (congrArg Array.toList Tryz.results71) (by simp) (by kernel_rfl) [] (exts:=[]) rfl rfl ?_
 simp only[go_sem]
 refine loop Tryz.mixed 0 (fun i:Nat=>[(0,.vs []),(5,.vs []),(6,.int .i64 0)]) (fun i=>[]) (fun i=>True) (fun i=>0) (by kernel_rfl) ?_ ?_ ?_
 ·trivial
 ·simp only[go_sem]
 ·intro i _
  simp only[go_sem]
theorem apf(s:List Int):Den Tryz.prog 106 [.vs [],.vs (s.map i1)] [] (.vs []) [] []:=by
 refine aa Tryz.mixed Tryz.func106 rfl Tryz.call106 Tryz.ntmps106 (congrArg Array.toList Tryz.results106) (by simp) (by kernel_rfl) [] (exts:=[]) rfl rfl ?_
 simp only[go_sem]
 refine loop Tryz.mixed 0 (fun i:Nat=>[(0,.vs []),(5,.vs []),(6,.int .i64 0)]) (fun i=>[]) (fun i=>True) (fun i=>0) (by kernel_rfl) ?_ ?_ ?_
 ·trivial
 ·simp only[go_sem]
 ·intro i _
  simp only[go_sem]
theorem a0d(c:Cs)(s:List Int)(hs:big s.length):Den Tryz.prog 73 [.vs [],.agg (cs c),.vs (s.map i1)] [] (.tup [.vs [],.int .i64 (ckS c s)]) [] []:=by
 refine aa Tryz.mixed Tryz.func73 rfl Tryz.call73 Tryz.ntmps73 (congrArg Array.toList Tryz.results73) (by simp) (by kernel_rfl) [] (exts:=[]) rfl rfl ?_
 have c1:=w5 c s hs
 have c2:=aq1 c
 rw[bd]at c1 c2
 generalize ckS c s=m at*
 simp only[go_sem]
 refine call c1 [] ?_
 by_cases h:m=0
 rotate_left
 ·simp only[go_sem,h]
 simp only[go_sem,h]
 refine call c2 [] ?_
 simp only[go_sem]
 refine call (apf s) [] ?_
 simp only[go_sem]
 refine loop Tryz.mixed 0 (fun i:Nat=>[(9,.vs []),(10,.vs []),(11,.int .i64 0)]) (fun i=>[]) (fun i=>True) (fun i=>0) (by kernel_rfl) ?_ ?_ ?_
 ·trivial
 ·simp only[go_sem]
 ·intro i _
  simp only[go_sem,h]
def noC:Ct:=⟨[],[]⟩
theorem a56(c:Cs)(s:List Int)(hs:big s.length):Den Tryz.prog 47 [.vs [],.agg (cs c),.vs (s.map i1)] [] (.tup [.agg (ct noC),.bool false,.int .i64 (ckS c s)]) [] []:=by
 refine aa Tryz.mixed Tryz.func47 rfl Tryz.call47 Tryz.ntmps47 (congrArg Array.toList Tryz.results47) (by simp) (by kernel_rfl) [] (exts:=[]) rfl rfl ?_
 have c1:=a0d c s hs
 rw[bd]at c1
 generalize ckS c s=m at*
 simp only[go_sem]
 refine call c1 [] ?_
 by_cases h:m=0
 ·simp only[go_sem,h,noC,List.map_nil]
 ·simp only[go_sem,h,noC,List.map_nil]
def cu(r:Rl)(t:Tm)(c:Cs):List Int×Int:=if c.ep≠t.ep then([],46)else ofR r t.bea t.ros c
theorem afa(r:Rl)(t:Tm)(c:Cs)(h0:big r.gen.length)(h1:big r.pol.se.length)(h2:big r.pol.ta.length)(hl:big t.ros.length)(hv:i8 t.ros=true→t.bea.length=32):Den Tryz.prog 25 [.agg (rl r),.agg (tm t),.agg (cs c)] [] (.tup [.vs ((cu r t c).1.map i1),.int .i64 (cu r t c).2]) [] []:=by
 refine aa Tryz.mixed Tryz.func25 rfl Tryz.call25 Tryz.ntmps25 (congrArg Array.toList Tryz.results25) (by simp) (by kernel_rfl) [] (exts:=[]) rfl rfl ?_
 have c1:=awg r t.bea t.ros c h0 h1 h2 hl hv
 rw[bd,bu]at c1
 have hm:cu r t c=if c.ep≠t.ep then([],46)else ofR r t.bea t.ros c:=rfl
 generalize cu r t c=m at*
 by_cases h:c.ep=t.ep
 ·rw[if_neg (by simpa using h)]at hm
  rw[←hm]at c1
  simp only[go_sem,h]
  rw[h]at c1
  refine call c1 [] ?_
  simp only[go_sem]
 ·rw[if_pos h]at hm
  subst hm
  simp only[go_sem,h,List.map_nil]
theorem ao3(k:Int):Den Tryz.prog 83 [.int .i64 k] [] (.agg (cs ⟨k,1,0,0⟩)) [] []:=by
 refine aa Tryz.mixed Tryz.func83 rfl Tryz.call83 Tryz.ntmps83 (congrArg Array.toList Tryz.results83) (by simp) (by kernel_rfl) [] (exts:=[]) rfl rfl ?_
 simp only[go_sem]
def bdj(r:Rl)(t:Tm)(c:Cs):Int:=if(cu r t c).2≠0 then(cu r t c).2 else ckS c (cu r t c).1
theorem at4(r:Rl)(v:List UInt8)(l:List Int)(c:Cs):(ofR r v l c).1.length≤64:=by
 have h: ∀j prev,(oe r v l c j prev).length≤64:=fun j prev=>by
  rw[vc]
  have:=vu l prev
  omega
 rw[ya]
 (repeat' split)<;>first|exact h _ _|simp
theorem r7(r:Rl)(t:Tm)(c:Cs):(cu r t c).1.length≤64:=by
 unfold cu
 split
 ·simp
 ·exact at4 _ _ _ _
theorem afz(r:Rl)(t:Tm)(c:Cs)(h0:big r.gen.length)(h1:big r.pol.se.length)(h2:big r.pol.ta.length)(hl:big t.ros.length)(hv:i8 t.ros=true→t.bea.length=32):Den Tryz.prog 23 [.agg (rl r),.vs [],.agg (tm t),.agg (cs c)] [] (.tup [.agg (ct noC),.bool false,.int .i64 (bdj r t c)]) [] []:=by
 refine aa Tryz.mixed Tryz.func23 rfl Tryz.call23 Tryz.ntmps23 (congrArg Array.toList Tryz.results23) (by simp) (by kernel_rfl) [] (exts:=[]) rfl rfl ?_
 have hsl:=r7 r t c
 have c1:=afa r t c h0 h1 h2 hl hv
 have c2:=a56 c (cu r t c).1 (by simp only[big];omega)
 have hm:bdj r t c=if(cu r t c).2≠0 then(cu r t c).2 else ckS c (cu r t c).1:=rfl
 generalize bdj r t c=m at*
 generalize cu r t c=S at*
 obtain⟨s,k⟩:=S
 simp only at hm c1 c2
 rw[bd,bu,fy]at c1
 rw[bd]at c2
 simp only[go_sem]
 refine call c1 [] ?_
 by_cases h:k=0
 ·rw[if_neg (by simpa using h)]at hm
  rw[←hm]at c2
  simp only[go_sem,h]
  refine call c2 [] ?_
  simp only[go_sem]
 ·rw[if_pos h]at hm
  subst hm
  simp only[go_sem,h,noC,List.map_nil]
  done
def lu(r:Rl):Tm:=⟨0,r.gen,p4 r,false,noC⟩
theorem aoq(r:Rl)(hr:dp r=0)(h0:r.gen.length≤1000000)(h1:r.pol.se.length≤1000000)(h2:r.pol.ta.length≤1000000):Den Tryz.prog 51 [.agg (rl r),.vs []] [] (.tup [.vs [tm (lu r)],.int .i64 0]) [] []:=by
 refine aa Tryz.mixed Tryz.func51 rfl Tryz.call51 Tryz.ntmps51 (congrArg Array.toList Tryz.results51) (by simp) (by kernel_rfl) [] (exts:=[]) rfl rfl ?_
 have c0:=qf r (by simp only[big];omega) (by simp only[big];omega) (by simp only[big];omega)
 have c1:=auw r hr h0 h1 h2
 have c2:=afz r (lu r) ⟨0,1,0,0⟩ (by simp only[big];omega) (by simp only[big];omega) (by simp only[big];omega) (by show big r.gen.length;simp only[big];omega) (fun _=>abq _)
 have c3:=ao3 0
 have ht:tm (lu r)=[.int .i64 0,.vs (r.gen.map i1),.str (p4 r),.bool false,.vs [],.vs []]:=rfl
 rw[ht]at c2 ⊢
 generalize bdj r (lu r) ⟨0,1,0,0⟩=k at*
 generalize p4 r=v at*
 rw[hr]at c0
 rw[bu]at c0 c1 c2
 rw[bd]at c2 c3
 have hn:ct noC=[.vs [],.vs []]:=rfl
 rw[hn]at c2
 clear hn ht
 simp only[go_sem]
 refine call c0 [] ?_
 simp only[go_sem]
 refine call c1 [] ?_
 simp only[go_sem]
 refine⟨by omega,?_⟩
 refine loop Tryz.mixed 0 (fun i:Nat=>[(2,.ptr 2 0),(1,.vs []),(7,.str v),(9,.vs (r.gen.map i1)),(10,.nils),(11,.int .i64 0)]) (fun i=>[(2,.cells (rl r))]) (fun i=>True) (fun i=>0) (by kernel_rfl) ?_ ?_ ?_
 ·trivial
 ·simp only[go_sem]
 ·intro i _
  simp only[go_sem]
  refine call c3 [] ?_
  simp only[go_sem]
  refine call c2 [] ?_
  simp only[go_sem]
  exact⟨ae (by kernel_rfl),ae (by kernel_rfl)⟩
theorem aux(r:Rl)(hr:dp r=0)(h0:r.gen.length≤1000000)(h1:r.pol.se.length≤1000000)(h2:r.pol.ta.length≤1000000):Den Tryz.prog 28 [.agg (rl r),.vs [],.int .i64 0] [] (.tup [.agg (tm (lu r)),.int .i64 0]) [] []:=by
 refine aa Tryz.mixed Tryz.func28 rfl Tryz.call28 Tryz.ntmps28 (congrArg Array.toList Tryz.results28) (by simp) (by kernel_rfl) [] (exts:=[]) rfl rfl ?_
 have c1:=aoq r hr h0 h1 h2
 rw[bu]at c1
 have ht:tm (lu r)=[.int .i64 0,.vs (r.gen.map i1),.str (p4 r),.bool false,.vs [],.vs []]:=rfl
 rw[ht]at c1 ⊢
 simp only[go_sem]
 refine call c1 [] ?_
 simp only[go_sem]
 done
end Go.Proofs.Am
