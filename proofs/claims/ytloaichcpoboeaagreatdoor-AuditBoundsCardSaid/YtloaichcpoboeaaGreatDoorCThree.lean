/- CThree. -/
import Derived.Test.YtloaichcpoboeaaGreatDoorCOne
import Derived.Shelf.Small.Strs
set_option maxHeartbeats 1000000
set_option maxRecDepth 100000
set_option linter.unusedSimpArgs false
set_option linter.unusedVariables false
namespace Go.Proofs.Am
open Go Go.RowKit
open Go.Proofs
theorem na(x m:Int):Den Tryz.prog 157 [.int .i64 x,.int .i64 m] [] (.bool (inB x 0 m)) [] []:=by
 refine aa Tryz.func157 rfl Tryz.call157 Tryz.ntmps157 Tryz.results157 (by simp) (by kernel_rfl) [] (exts:=[]) rfl rfl ?_;by_cases h:0<=x
 ·simp only[go_sem,h,inB]
 ·simp only[go_sem,h,inB]
theorem afm(x:Int):Den Tryz.prog 156 [.int .i64 x] [] (.bool (inB x 0 63)) [] []:=by
 refine aa Tryz.func156 rfl Tryz.call156 Tryz.ntmps156 Tryz.results156 (by simp) (by kernel_rfl) [] (exts:=[]) rfl rfl ?_;by_cases h:0<=x
 ·by_cases h':x<64
  ·have:inB x 0 63=true:=decide_eq_true (by omega);simp only[go_sem,h,h',this]
  ·have:inB x 0 63=false:=decide_eq_false (by omega);simp only[go_sem,h,h',this]
 ·have:inB x 0 63=false:=decide_eq_false (by omega);simp only[go_sem,h,this]
theorem auw(l:List Pn)(hl:big l.length):Den Tryz.prog 159 [.vs (l.map pn)] [] (.bool (ku l)) [] []:=by
 refine aa Tryz.func159 rfl Tryz.call159 Tryz.ntmps159 Tryz.results159 (by simp) (by kernel_rfl) [] (exts:=[]) rfl rfl ?_;simp only[go_sem];refine loop Tryz.mixed 0 (fun i:Nat=>[(0,.vs (l.map pn)),(3,.int .i64 i)]) (fun i=>[]) (fun i=>i<=l.length/\∀j,j<i->lw l j=true) (fun i=>l.length - i) (by kernel_rfl) ?_ ?_ ?_
 ·simp
 ·simp only[go_sem]
 ·rintro i ⟨hi,hp⟩;by_cases hi':i<l.length
  ·have hlt:(i:Int)<(l.length:Int):=by omega
   simp only[go_sem,hlt,hi'];refine call (afm (el l i).au) [] ?_
   cases e1:inB (el l i).au 0 63
   ·have hq:lw l i=false:=by simp[lw,e1]
    simp only[go_sem];exact⟨ag (by kernel_rfl),(bu hi' hq).symm⟩
   ·have tail: ∀(_:(decide (0<i)&&decide ((el l i).au<=(el l (i - 1)).au))=false),∀b,b=(inB (el l i).he 1 200&&decide ((el l i).di.length=32))->lw l i=b:=fun h b hb=>by
     rw[hb,lw,e1,h];simp
    by_cases e2:0<i
    ·have e2':(0:Int)<(i:Int):=by omega
     have e3:IntKind.i64.wrap ((i:Int) - 1)=((i - 1:Nat):Int):=by rw[ae]<;>omega
     have e4:i - 1<l.length:=by omega
     by_cases e5:(el l i).au<=(el l (i - 1)).au
     ·have hq:lw l i=false:=by simp[lw,e1,e2,e5]
      simp only[go_sem,e2',e3,e4,e5];exact⟨ag (by kernel_rfl),(bu hi' hq).symm⟩
     have tail:=tail (by simp[e5]);by_cases e6:(el l i).he<1
     ·have hq:=tail false (by rw[inB,decide_eq_false (by omega)];rfl);simp only[go_sem,e2',e3,e4,e5,e6];exact⟨ag (by kernel_rfl),(bu hi' hq).symm⟩
     by_cases e6':200<(el l i).he
     ·have hq:=tail false (by rw[inB,decide_eq_false (by omega)];rfl);simp only[go_sem,e2',e3,e4,e5,e6,e6'];exact⟨ag (by kernel_rfl),(bu hi' hq).symm⟩
     have e66:inB (el l i).he 1 200=true:=decide_eq_true (by omega);by_cases e7:(el l i).di.length=32
     ·have hq:=tail true (by simp[e66,e7]);have e7':((el l i).di.length:Int)=32:=by omega
      simp only[go_sem,e2',e3,e4,e5,e6,e6',e7'];refine⟨ag (by kernel_rfl),i+1,⟨⟨by omega,fun j hj=> ?_⟩,by omega⟩,by rw[ae]<;>omega⟩;by_cases hji:j=i
      ·rw[hji];exact hq
      ·exact hp j (by omega)
     ·have hq:=tail false (by simp[e7]);have e7': ¬((el l i).di.length:Int)=32:=by omega
      simp only[go_sem,e2',e3,e4,e5,e6,e6',e7'];exact⟨ag (by kernel_rfl),(bu hi' hq).symm⟩
    ·have e2': ¬(0:Int)<(i:Int):=by omega
     have tail:=tail (by simp[e2]);by_cases e6:(el l i).he<1
     ·have hq:=tail false (by rw[inB,decide_eq_false (by omega)];rfl);simp only[go_sem,e2',e6];exact⟨ag (by kernel_rfl),(bu hi' hq).symm⟩
     by_cases e6':200<(el l i).he
     ·have hq:=tail false (by rw[inB,decide_eq_false (by omega)];rfl);simp only[go_sem,e2',e6,e6'];exact⟨ag (by kernel_rfl),(bu hi' hq).symm⟩
     have e66:inB (el l i).he 1 200=true:=decide_eq_true (by omega);by_cases e7:(el l i).di.length=32
     ·have hq:=tail true (by simp[e66,e7]);have e7':((el l i).di.length:Int)=32:=by omega
      simp only[go_sem,e2',e6,e6',e7'];refine⟨ag (by kernel_rfl),i+1,⟨⟨by omega,fun j hj=> ?_⟩,by omega⟩,by rw[ae]<;>omega⟩;by_cases hji:j=i
      ·rw[hji];exact hq
      ·exact hp j (by omega)
     ·have hq:=tail false (by simp[e7]);have e7': ¬((el l i).di.length:Int)=32:=by omega
      simp only[go_sem,e2',e6,e6',e7'];exact⟨ag (by kernel_rfl),(bu hi' hq).symm⟩
  ·have hf: ¬((i:Int)<(l.length:Int)):=by omega
   have:i=l.length:=by omega
   subst this;simp only[go_sem,hf];exact(abv hp).symm
def qp(s:Stm):Bool:=inB s.nu 0 199&&(jo s.a&&(jo s.b&&(jo s.c&&(!(s.li.any fun x=> !jo x)&&ef s))))
theorem bgq{l:List Int}{p:Int->Bool}{i:Nat}(hi:i<l.length)(h:p (el l i)=true):l.any p=true:=List.any_eq_true.2 ⟨_,ix hi,h⟩
theorem bhg{l:List Int}{p:Int->Bool}(h: ∀j,j<l.length->p (el l j)=false):l.any p=false:=by
 rw[List.any_eq_false];intro x hx;obtain⟨j,hj,rfl⟩:=ym hx;rw[h j hj];simp
theorem acw(x:Int):inB x 0 1099511627776=jo x:=rfl
theorem ai7(s:Stm)(hl:big s.li.length):Den Tryz.prog 158 [.agg (sm s)] [] (.bool (qp s)) [] []:=by
 refine aa Tryz.func158 rfl Tryz.call158 Tryz.ntmps158 Tryz.results158 (by simp) (by kernel_rfl) [] (exts:=[]) rfl rfl ?_;generalize hm:qp s=m;simp only[go_sem];refine call (na s.nu 199) [] ?_
 cases e1:inB s.nu 0 199
 ·simp only[go_sem];rw[<-hm];simp[qp,e1]
 simp only[go_sem];refine call (na s.a 1099511627776) [] ?_;rw[acw]
 cases e2:jo s.a
 ·simp only[go_sem];rw[<-hm];simp[qp,e1,e2]
 simp only[go_sem];refine call (na s.b 1099511627776) [] ?_;rw[acw]
 cases e3:jo s.b
 ·simp only[go_sem];rw[<-hm];simp[qp,e1,e2,e3]
 simp only[go_sem];refine call (na s.c 1099511627776) [] ?_;rw[acw]
 cases e4:jo s.c
 ·simp only[go_sem];rw[<-hm];simp[qp,e1,e2,e3,e4]
 simp only[go_sem];refine loop Tryz.mixed 0 (fun i:Nat=>[(1,.ptr 1 0),(3,.int .i64 i)]) (fun i=>[(1,.cells (sm s))]) (fun i=>i<=s.li.length/\∀j,j<i->jo (el s.li j)=true) (fun i=>s.li.length - i) (by kernel_rfl) ?_ ?_ ?_
 ·simp
 ·simp only[go_sem]
 ·rintro i ⟨hi,hp⟩;by_cases hi':i<s.li.length
  ·have hlt:(i:Int)<(s.li.length:Int):=by omega
   simp only[go_sem,hlt,hi'];refine call (na (el s.li i) 1099511627776) [] ?_;rw[acw]
   cases e5:jo (el s.li i)
   ·have:=bgq (p:=fun x=> !jo x) hi' (by simp[e5]);simp only[go_sem];rw[<-hm];simp only[qp,e1,e2,e3,e4,this];simp
   ·simp only[go_sem];refine⟨i+1,⟨⟨by omega,fun j hj=> ?_⟩,by omega⟩,by rw[ae]<;>omega⟩;by_cases hji:j=i
    ·rw[hji];exact e5
    ·exact hp j (by omega)
  ·have hf: ¬((i:Int)<(s.li.length:Int)):=by omega
   have:i=s.li.length:=by omega
   subst this;have e5:=bhg (l:=s.li) (p:=fun x=> !jo x) fun j hj=>by simp[hp j hj]
   have hm:ef s=m:=by rw[<-hm];simp only[qp,e1,e2,e3,e4,e5];simp
   clear hp;by_cases k1:s.kd=1
   ·have hmm:ef s=(inB s.a 0 63&&decide (s.a≠s.au)&&inB s.b 1 3&&inB s.c s.ti 2147483648):=if_pos k1;rw[hmm]at hm;clear hmm;simp only[go_sem,hf,k1];refine call (afm s.a) [] ?_
    cases f1:inB s.a 0 63
    ·rw[f1]at hm;simp only[go_sem];rw[<-hm];simp
    rw[f1]at hm;by_cases f2:s.a=s.au
    ·simp only[go_sem,f2];rw[<-hm];simp[f2]
    by_cases f3:1<=s.b
    rotate_left
    ·have:inB s.b 1 3=false:=decide_eq_false (by omega);simp only[go_sem,f2,f3];rw[<-hm];simp[this]
    by_cases f4:s.b<=3
    rotate_left
    ·have:inB s.b 1 3=false:=decide_eq_false (by omega);simp only[go_sem,f2,f3,f4];rw[<-hm];simp[this]
    have h5:inB s.b 1 3=true:=decide_eq_true (by omega);by_cases f5:s.ti<=s.c
    rotate_left
    ·have:inB s.c s.ti 2147483648=false:=decide_eq_false (by omega);simp only[go_sem,f2,f3,f4,f5];rw[<-hm];simp[this]
    by_cases f6:s.c<=2147483648
    ·have:inB s.c s.ti 2147483648=true:=decide_eq_true (by omega);simp only[go_sem,f2,f3,f4,f5,f6];rw[<-hm];simp[this,h5,f2]
    ·have:inB s.c s.ti 2147483648=false:=decide_eq_false (by omega);simp only[go_sem,f2,f3,f4,f5,f6];rw[<-hm];simp[this]
   by_cases k2:s.kd=2
   ·have hmm:ef s=(inB s.a 0 199&&decide (s.b=0)&&decide (s.c=0)):=by rw[ef,if_neg k1,if_pos k2]
    rw[hmm]at hm;clear hmm;simp only[go_sem,hf,k1,k2];refine call (na s.a 199) [] ?_
    cases f1:inB s.a 0 199
    ·rw[f1]at hm;simp only[go_sem];rw[<-hm];simp
    rw[f1]at hm;by_cases f2:s.b=0
    ·simp only[go_sem,f2];rw[<-hm];simp[f2]
    ·simp only[go_sem,f2];rw[<-hm];simp[f2]
   by_cases k3:s.kd=3
   ·have hmm:ef s=(decide (s.a=0)&&decide (s.b=0)&&decide (s.c=0)):=by rw[ef,if_neg k1,if_neg k2,if_pos k3]
    rw[hmm]at hm;clear hmm;by_cases f1:s.a=0
    ·by_cases f2:s.b=0
     ·simp only[go_sem,hf,k1,k2,k3,f1,f2];rw[<-hm];simp[f1,f2]
     ·simp only[go_sem,hf,k1,k2,k3,f1,f2];rw[<-hm];simp[f2]
    ·simp only[go_sem,hf,k1,k2,k3,f1];rw[<-hm];simp[f1]
   ·have hmm:ef s=true:=by rw[ef,if_neg k1,if_neg k2,if_neg k3]
    simp only[go_sem,hf,k1,k2,k3];rw[<-hm];exact hmm.symm
theorem bag{s:Stm}(h:qp s=true):(!inB s.nu 0 199|| !jo s.a|| !jo s.b|| !jo s.c|| !ef s||s.li.any fun x=> !jo x)=false:=by
 simp only[qp,Bool.and_eq_true,Bool.not_eq_true']at h;obtain⟨h1,h2,h3,h4,h5,h6⟩:=h;simp only[h1,h2,h3,h4,h5,h6];rfl
theorem a9p{s:Stm}(h:qp s=false):(!inB s.nu 0 199|| !jo s.a|| !jo s.b|| !jo s.c|| !ef s||s.li.any fun x=> !jo x)=true:=by
 cases hh:(!inB s.nu 0 199|| !jo s.a|| !jo s.b|| !jo s.c|| !ef s||s.li.any fun x=> !jo x)with
 |true=>rfl
 |false=>
  simp only[Bool.or_eq_false_iff,Bool.not_eq_false']at hh;obtain⟨⟨⟨⟨⟨h1,h2⟩,h3⟩,h4⟩,h5⟩,h6⟩:=hh;rw[qp,h1,h2,h3,h4,h5,h6]at h
  cases h
theorem als(s:Stm)(hs:adv s):Den Tryz.prog 116 [.agg (sm s)] [] (.int .i64 (am s)) [] []:=by
 obtain⟨hbl,hbp⟩:=hs;refine aa Tryz.func116 rfl Tryz.call116 Tryz.ntmps116 Tryz.results116 (by simp) (by kernel_rfl) [] (exts:=[]) rfl rfl ?_;generalize hm:am s=m;have cn:=ai7 s hbl;rw[kg]at cn;have cp:=auw s.pins hbp;simp only[go_sem];refine call (afm s.au) [] ?_
 cases e1:inB s.au 0 63
 ·simp only[go_sem];rw[<-hm];simp only[am,e1];rfl
 by_cases k1:s.kd<1
 ·have ek:(!inB s.kd 1 3&& !inB s.kd 10 31)=true:=by rw[inB,inB,decide_eq_false (by omega),decide_eq_false (by omega)];rfl
  simp only[go_sem,k1];rw[<-hm];simp only[am,e1,ek];rfl
 by_cases kk:s.kd<=3
 ·have k2: ¬3<s.kd:=by omega
  have k4: ¬31<s.kd:=by omega
  have ek:(!inB s.kd 1 3&& !inB s.kd 10 31)=false:=by rw[inB,decide_eq_true (by omega)];rfl
  simp only[go_sem,k1,k2,k4,kk];refine call (na s.ti 2147483648) [] ?_
  cases e4:inB s.ti 0 2147483648
  ·simp only[go_sem];rw[<-hm];simp[am,e1,ek,e4]
  simp only[go_sem];refine call cn [] ?_
  cases e5:qp s
  ·have e5':=a9p e5;simp only[go_sem];rw[<-hm];simp only[am,e1,ek,e4,e5'];rfl
  have e5':=bag e5;by_cases l1:(64:Int)<(s.li.length:Int)
  ·have elen:(decide (64<s.li.length)||decide (64<s.pins.length)||decide (4096<s.body.length))=true:=by simp;omega
   simp only[go_sem,l1];rw[<-hm];simp only[am,e1,ek,e4,e5',elen];rfl
  by_cases l2:(64:Int)<(s.pins.length:Int)
  ·have elen:(decide (64<s.li.length)||decide (64<s.pins.length)||decide (4096<s.body.length))=true:=by simp;omega
   simp only[go_sem,l1,l2];rw[<-hm];simp only[am,e1,ek,e4,e5',elen];rfl
  by_cases l3:(4096:Int)<(s.body.length:Int)
  ·have elen:(decide (64<s.li.length)||decide (64<s.pins.length)||decide (4096<s.body.length))=true:=by simp;omega
   simp only[go_sem,l1,l2,l3];rw[<-hm];simp only[am,e1,ek,e4,e5',elen];rfl
  have elen:(decide (64<s.li.length)||decide (64<s.pins.length)||decide (4096<s.body.length))=false:=by simp;omega
  have hm:(if((decide (s.nu=0)&&decide (s.prev≠[]))||(decide (0<s.nu)&&decide (s.prev.length≠32))|| !ku s.pins||(decide (s.kd<=3)&&decide (0<s.li.length+s.pins.length+s.body.length)))=true then 1
   else(0:Int))=m:=by rw[<-hm];simp only[am,e1,ek,e4,e5',elen];rfl
  by_cases n0:s.nu=0
  ·by_cases n1:s.prev=[]
   ·skip
    simp only[go_sem,l1,l2,l3,n0,n1];refine call cp [] ?_
    cases e14:ku s.pins
    ·simp only[go_sem];rw[<-hm];simp[e14]
    by_cases g1:(0:Int)<(s.li.length:Int)
    ·simp only[go_sem,kk,g1];rw[if_pos (by simp[kk];omega)]at hm;exact hm
    by_cases g2:(0:Int)<(s.pins.length:Int)
    ·simp only[go_sem,kk,g1,g2];rw[if_pos (by simp[kk];omega)]at hm;exact hm
    by_cases g3:s.body=[]
    ·simp only[go_sem,kk,g1,g2,g3];have g4:s.body.length=0:=by rw[g3];rfl
     have elz:decide (0<s.li.length+s.pins.length+s.body.length)=false:=decide_eq_false (by omega);rw[elz,e14,if_neg (by simp[n0,n1])]at hm;exact hm
    ·have:0<s.body.length:=List.length_pos_iff.2 g3;simp only[go_sem,kk,g1,g2,g3];rw[if_pos (by simp[kk];omega)]at hm;exact hm
   ·simp only[go_sem,l1,l2,l3,n0,n1];rw[if_pos (by simp[n0,n1])]at hm;exact hm
  by_cases n2:0<s.nu
  ·by_cases n3:(s.prev.length:Int)=32
   ·have n3':s.prev.length=32:=by omega
    simp only[go_sem,l1,l2,l3,n0,n2,n3];refine call cp [] ?_
    cases e14:ku s.pins
    ·simp only[go_sem];rw[<-hm];simp[e14]
    by_cases g1:(0:Int)<(s.li.length:Int)
    ·simp only[go_sem,kk,g1];rw[if_pos (by simp[kk];omega)]at hm;exact hm
    by_cases g2:(0:Int)<(s.pins.length:Int)
    ·simp only[go_sem,kk,g1,g2];rw[if_pos (by simp[kk];omega)]at hm;exact hm
    by_cases g3:s.body=[]
    ·simp only[go_sem,kk,g1,g2,g3];have g4:s.body.length=0:=by rw[g3];rfl
     have elz:decide (0<s.li.length+s.pins.length+s.body.length)=false:=decide_eq_false (by omega);rw[elz,e14,if_neg (by simp[n0,n2,n3'])]at hm;exact hm
    ·have:0<s.body.length:=List.length_pos_iff.2 g3;simp only[go_sem,kk,g1,g2,g3];rw[if_pos (by simp[kk];omega)]at hm;exact hm
   ·have n3': ¬s.prev.length=32:=by omega
    simp only[go_sem,l1,l2,l3,n0,n2,n3];rw[if_pos (by simp[n2,n3'])]at hm;exact hm
  simp only[go_sem,l1,l2,l3,n0,n2];refine call cp [] ?_
  cases e14:ku s.pins
  ·simp only[go_sem];rw[<-hm];simp[e14]
  by_cases g1:(0:Int)<(s.li.length:Int)
  ·simp only[go_sem,kk,g1];rw[if_pos (by simp[kk];omega)]at hm;exact hm
  by_cases g2:(0:Int)<(s.pins.length:Int)
  ·simp only[go_sem,kk,g1,g2];rw[if_pos (by simp[kk];omega)]at hm;exact hm
  by_cases g3:s.body=[]
  ·simp only[go_sem,kk,g1,g2,g3];have g4:s.body.length=0:=by rw[g3];rfl
   have elz:decide (0<s.li.length+s.pins.length+s.body.length)=false:=decide_eq_false (by omega);rw[elz,e14,if_neg (by simp[n0,n2])]at hm;exact hm
  ·have:0<s.body.length:=List.length_pos_iff.2 g3;simp only[go_sem,kk,g1,g2,g3];rw[if_pos (by simp[kk];omega)]at hm;exact hm
 have k2:3<s.kd:=by omega
 by_cases k3:s.kd<10
 ·have ek:(!inB s.kd 1 3&& !inB s.kd 10 31)=true:=by rw[inB,inB,decide_eq_false (by omega),decide_eq_false (by omega)];rfl
  simp only[go_sem,k1,k2,k3];rw[<-hm];simp only[am,e1,ek];rfl
 by_cases k4:31<s.kd
 ·have ek:(!inB s.kd 1 3&& !inB s.kd 10 31)=true:=by rw[inB,inB,decide_eq_false (by omega),decide_eq_false (by omega)];rfl
  simp only[go_sem,k1,k2,k3,k4];rw[<-hm];simp only[am,e1,ek];rfl
 have ek:(!inB s.kd 1 3&& !inB s.kd 10 31)=false:=by rw[inB,inB,decide_eq_false (by omega),decide_eq_true (by omega)];rfl
 simp only[go_sem,k1,k2,k3,k4];refine call (na s.ti 2147483648) [] ?_
 cases e4:inB s.ti 0 2147483648
 ·simp only[go_sem];rw[<-hm];simp[am,e1,ek,e4]
 simp only[go_sem];refine call cn [] ?_
 cases e5:qp s
 ·have e5':=a9p e5;simp only[go_sem];rw[<-hm];simp only[am,e1,ek,e4,e5'];rfl
 have e5':=bag e5;by_cases l1:(64:Int)<(s.li.length:Int)
 ·have elen:(decide (64<s.li.length)||decide (64<s.pins.length)||decide (4096<s.body.length))=true:=by simp;omega
  simp only[go_sem,l1];rw[<-hm];simp only[am,e1,ek,e4,e5',elen];rfl
 by_cases l2:(64:Int)<(s.pins.length:Int)
 ·have elen:(decide (64<s.li.length)||decide (64<s.pins.length)||decide (4096<s.body.length))=true:=by simp;omega
  simp only[go_sem,l1,l2];rw[<-hm];simp only[am,e1,ek,e4,e5',elen];rfl
 by_cases l3:(4096:Int)<(s.body.length:Int)
 ·have elen:(decide (64<s.li.length)||decide (64<s.pins.length)||decide (4096<s.body.length))=true:=by simp;omega
  simp only[go_sem,l1,l2,l3];rw[<-hm];simp only[am,e1,ek,e4,e5',elen];rfl
 have elen:(decide (64<s.li.length)||decide (64<s.pins.length)||decide (4096<s.body.length))=false:=by simp;omega
 have hm:(if((decide (s.nu=0)&&decide (s.prev≠[]))||(decide (0<s.nu)&&decide (s.prev.length≠32))|| !ku s.pins||(decide (s.kd<=3)&&decide (0<s.li.length+s.pins.length+s.body.length)))=true then 1
  else(0:Int))=m:=by rw[<-hm];simp only[am,e1,ek,e4,e5',elen];rfl
 by_cases n0:s.nu=0
 ·by_cases n1:s.prev=[]
  ·skip
   simp only[go_sem,l1,l2,l3,n0,n1];refine call cp [] ?_
   cases e14:ku s.pins
   ·simp only[go_sem];rw[<-hm];simp[e14]
   simp only[go_sem,kk];rw[if_neg (by simp[kk,e14,n0,n1])]at hm;exact hm
  ·simp only[go_sem,l1,l2,l3,n0,n1];rw[if_pos (by simp[n0,n1])]at hm;exact hm
 by_cases n2:0<s.nu
 ·by_cases n3:(s.prev.length:Int)=32
  ·have n3':s.prev.length=32:=by omega
   simp only[go_sem,l1,l2,l3,n0,n2,n3];refine call cp [] ?_
   cases e14:ku s.pins
   ·simp only[go_sem];rw[<-hm];simp[e14]
   simp only[go_sem,kk];rw[if_neg (by simp[kk,e14,n0,n2,n3'])]at hm;exact hm
  ·have n3': ¬s.prev.length=32:=by omega
   simp only[go_sem,l1,l2,l3,n0,n2,n3];rw[if_pos (by simp[n2,n3'])]at hm;exact hm
 simp only[go_sem,l1,l2,l3,n0,n2];refine call cp [] ?_
 cases e14:ku s.pins
 ·simp only[go_sem];rw[<-hm];simp[e14]
 simp only[go_sem,kk];rw[if_neg (by simp[kk,e14,n0,n2])]at hm;exact hm
theorem auo(s:Stm)(hs:okS s):Den Tryz.prog 116 [.agg (sm s)] [] (.int .i64 (am s)) [] []:=als s hs.big
theorem ak2(s:Stm)(hs:okS s):Den Tryz.prog 117 [.agg (sm s)] [] (.bool (decide (s.sk=s.au/\s.sd=dig s))) [] []:=by
 refine aa Tryz.func117 rfl Tryz.call117 Tryz.ntmps117 Tryz.results117 (by simp) (by kernel_rfl) [] (exts:=[]) rfl rfl ?_;by_cases h1:s.sk=s.au
 ·simp only[go_sem,h1];refine call (apq s hs) [] ?_;simp only[go_sem,h1];exact ag (by kernel_rfl)
 ·simp only[go_sem,h1];exact ag (by kernel_rfl)
structure Ct where
 li:List Int
 pi:List Pn
deriving Inhabited,DecidableEq
def ct(x:Ct):List PV:=[.vs (x.li.map i1),.vs (x.pi.map pn)]
theorem ahl(x:Ct):ct x=[.vs (x.li.map i1),.vs (x.pi.map pn)]:=(rfl)
attribute [go_sem] ahl
def ajv(x:Ct):Prop:=x.li.length<=1000000/\(x.pi.flatMap pnB).length<=100000000
def bbg(l:List Pn):Stm:=⟨0,0,[],0,10,0,0,0,[],l,[],0,[]⟩
theorem bca{x:Ct}(h:ajv x):okS (bbg x.pi):=by
 obtain⟨h1,h2⟩:=h;simp only[bbg,okS,stB,uu,acp,hdB,List.length_append,dw,az,gh,l5,List.length_cons,List.length_nil];omega
def bcp(k:Int)(l:List Int):Bool:=
 if k=1 then decide (l.length=2/\0<=el l 0/\el l 0<4294967296/\0<=el l 1/\el l 1<4294967296)else decide (l.length=1/\(el l 0=0\/el l 0=1))
def o4(c:Cs)(x:Ct):Bool:=l6 c&&(decide (am (bbg x.pi)=0)&&bcp c.kd x.li)
def aw1(c:Cs)(x:Ct):Drf×Int:=if l6 c=false then(noD,41)else if o4 c x=false then(noD,42)else(⟨10,c.ep,c.kd+16*c.ro,c.su,x.li,x.pi⟩,0)
def bkw(d:Drf):Prop:=d.li.length<=1000000/\(d.pins.flatMap pnB).length<=100000000
theorem ayx(c:Cs)(x:Ct)(hx:ajv x):bkw (aw1 c x).1:=by
 unfold aw1;split
 ·exact⟨by simp[noD],by simp[noD]⟩
 split
 ·exact⟨by simp[noD],by simp[noD]⟩
 ·exact hx
def vt(au nu:Int)(c:Cs)(x:Ct):Stm:=mz au nu 1 (aw1 c x).1
structure Tm where
 ep:Int
 ros:List Int
 bea:List UInt8
 dec:Bool
 nx:Ct
deriving Inhabited,DecidableEq
def tm(t:Tm):List PV:=[.int .i64 t.ep,.vs (t.ros.map i1),.str t.bea,.bool t.dec,.vs (t.nx.li.map i1),.vs (t.nx.pi.map pn)]
theorem amo(t:Tm):tm t=[.int .i64 t.ep,.vs (t.ros.map i1),.str t.bea,.bool t.dec,.vs (t.nx.li.map i1),.vs (t.nx.pi.map pn)]:=(rfl)
attribute [go_sem] amo
def a9v(s:List Int)(i:Nat):Bool:=decide (0<=el s i/\el s i<64/\el s i∉s.take i)
def ckS(c:Cs)(s:List Int):Int:=if l6 c=false then 41 else if s.length<1\/9<s.length then 44 else if aaf (a9v s) s.length then 0 else 44
def noC:Ct:=⟨[],[]⟩
def o7(r:Rl)(t:Tm)(c:Cs):List Int×Int:=if c.ep≠t.ep then([],46)else ofR r t.bea t.ros c
theorem bbj(r:Rl)(v:List UInt8)(l:List Int)(c:Cs):(ofR r v l c).1.length<=64:=by
 have h: ∀j prev,(xr r v l c j prev).length<=64:=fun j prev=>by
  rw[ae9];have:=ajx l prev;omega
 rw[avm]
 (repeat' split)<;>first|exact h _ _|simp
def yl(r:Rl):Tm:=⟨0,r.gen,aws r,false,noC⟩
def gv(a b:Int):Int:=if a<b then -1 else if b<a then 1 else 0
def tw{α:Type}(f:α->α->Int):List α->List α->Int
 |[],[]=>0
 |[],_::_=> -1
 |_::_,[]=>1
 |x::xs,y::ys=>if f x y=0 then tw f xs ys else f x y
def or2(a b:Int):Int:=if a=0 then b else a
def orL:List Int->Int
 |[]=>0
 |x::r=>if x=0 then orL r else x
def an7(p q:Pn):Int:=or2 (gv p.au q.au) (or2 (gv p.he q.he) (Lib.compareBytes p.di q.di))
def ot(x y:Ct):Int:=or2 (tw gv x.li y.li) (tw an7 x.pi y.pi)
theorem ag3{α:Type} [Inhabited α](f:α->α->Int){a b:List α}{i:Nat}(ha:i<a.length)(hb:i<b.length):
  tw f (a.drop i) (b.drop i)=if f (el a i) (el b i)=0 then tw f (a.drop (i+1)) (b.drop (i+1))else f (el a i) (el b i):=by
 have e1:a.drop i=el a i::a.drop (i+1):=by
  rw[List.drop_eq_getElem_cons ha];simp[el,aw,a8 ha]
 have e2:b.drop i=el b i::b.drop (i+1):=by
  rw[List.drop_eq_getElem_cons hb];simp[el,aw,a8 hb]
 rw[e1,e2];rfl
theorem ao6{α:Type}(f:α->α->Int){a b:List α}{i:Nat}(hi:i=min a.length b.length):tw f (a.drop i) (b.drop i)=gv a.length b.length:=by
 by_cases h1:a.length<b.length
 ·have:a.drop i=[]:=by rw[List.drop_eq_nil_iff];omega
  rw[this,gv,if_pos (by omega)]
  cases hd:b.drop i with
  |nil=>have:=List.drop_eq_nil_iff.1 hd;omega
  |cons y r=>rfl
 ·have hb:b.drop i=[]:=by rw[List.drop_eq_nil_iff];omega
  rw[hb,gv,if_neg (by omega)];by_cases h2:b.length<a.length
  ·rw[if_pos (by omega)]
   cases hd:a.drop i with
   |nil=>have:=List.drop_eq_nil_iff.1 hd;omega
   |cons y r=>rfl
  ·have:a.drop i=[]:=by rw[List.drop_eq_nil_iff];omega
   rw[this,if_neg (by omega)];rfl
theorem bae(a b:Nat):(if(b:Int)<(a:Int)then(b:Int)else(a:Int))=((min a b:Nat):Int):=by
 split<;>omega
theorem awz(a:Int):Den Tryz.prog 137 [.int .i64 a] [] (.bool false) [] []:=by
 refine aa Tryz.func137 rfl Tryz.call137 Tryz.ntmps137 Tryz.results137 (by simp) (by kernel_rfl) [] (exts:=[]) rfl rfl ?_;simp only[go_sem]
theorem eb(a b:Int):Den Tryz.prog 106 [.int .i64 a,.int .i64 b] [] (.int .i64 (gv a b)) [] []:=by
 refine aa Tryz.func106 rfl Tryz.call106 Tryz.ntmps106 Tryz.results106 (by simp) (by kernel_rfl) [] (exts:=[]) rfl rfl ?_;simp only[go_sem];refine call (awz a) [] ?_;simp only[go_sem];refine call (awz b) [] ?_;by_cases h1:a<b
 ·simp only[go_sem,h1];rw[gv,if_pos h1]
 ·by_cases h2:b<a
  ·simp only[go_sem,h1,h2];rw[gv,if_neg h1,if_pos h2]
  ·simp only[go_sem,h1,h2];rw[gv,if_neg h1,if_neg h2]
theorem a5e{l:List Int}{i:Nat}(h:i<l.length):orL (l.drop i)=if el l i=0 then orL (l.drop (i+1))else el l i:=by
 have e1:l.drop i=el l i::l.drop (i+1):=by
  rw[List.drop_eq_getElem_cons h];simp[el,aw,a8 h]
 rw[e1];rfl
theorem yo(l:List Int)(hl:big l.length):Den Tryz.prog 105 [.vs (l.map i1)] [] (.int .i64 (orL l)) [] []:=by
 refine aa Tryz.func105 rfl Tryz.call105 Tryz.ntmps105 Tryz.results105 (by simp) (by kernel_rfl) [] (exts:=[]) rfl rfl ?_;simp only[go_sem];refine loop Tryz.mixed 0 (fun i:Nat=>[(3,.int .i64 0),(6,.vs (l.map i1)),(7,.int .i64 l.length),(8,.int .i64 i)]) (fun _=>[]) (fun i=>i<=l.length/\orL l=orL (l.drop i)) (fun i=>l.length - i) (by kernel_rfl) ?_ ?_ ?_
 ·exact⟨Nat.zero_le _,rfl⟩
 ·simp only[go_sem]
 ·rintro i ⟨hi,hc⟩;by_cases hlt:i<l.length
  ·have h1:(i:Int)<(l.length:Int):=by omega
   rw[a5e hlt]at hc;by_cases hz:el l i=0
   ·rw[if_pos hz]at hc;simp only[go_sem,h1,hlt,hz];refine⟨i+1,⟨⟨by omega,hc⟩,by omega⟩,?_⟩;rw[ae]<;>omega
   ·rw[if_neg hz]at hc;simp only[go_sem,h1,hlt,hz];exact hc.symm
  ·have h1: ¬(i:Int)<(l.length:Int):=by omega
   have hd:l.drop i=[]:=by rw[List.drop_eq_nil_iff];omega
   rw[hd]at hc;simp only[go_sem,h1];exact hc.symm
theorem atd(a b:List Int)(ha:big a.length)(hb:big b.length):Den Tryz.prog 164 [.vs (a.map i1),.vs (b.map i1),.fn 106 []] [] (.int .i64 (tw gv a b)) [] []:=by
 refine aa Tryz.func164 rfl Tryz.call164 Tryz.ntmps164 Tryz.results164 (by simp) (by kernel_rfl) [] (exts:=[]) rfl rfl ?_;have hm:=bae a.length b.length;generalize hM:min a.length b.length=M at*;simp only[Int.ofNat_lt]at hm;simp only[go_sem,hm];refine loop Tryz.mixed 0 (fun i:Nat=>[(0,.vs (a.map i1)),(1,.vs (b.map i1)),(2,.fn 106 []),(13,.int .i64 M),(14,.int .i64 i)]) (fun _=>[]) (fun i=>i<=M/\tw gv a b=tw gv (a.drop i) (b.drop i)) (fun i=>M - i) (by kernel_rfl) ?_ ?_ ?_
 ·exact⟨Nat.zero_le _,rfl⟩
 ·simp only[go_sem]
 ·rintro i ⟨hi,hc⟩;by_cases hlt:i<M
  ·have h1:(i:Int)<(M:Int):=by omega
   have ia:i<a.length:=by omega
   have ib:i<b.length:=by omega
   rw[ag3 gv ia ib]at hc;simp only[go_sem,h1,ia,ib];refine call (eb (el a i) (el b i)) [] ?_;by_cases hz:gv (el a i) (el b i)=0
   ·rw[if_pos hz]at hc;simp only[go_sem,hz];refine⟨ag (by kernel_rfl),i+1,⟨⟨by omega,hc⟩,by omega⟩,?_⟩;rw[ae]<;>omega
   ·rw[if_neg hz]at hc;simp only[go_sem,hz];exact⟨ag (by kernel_rfl),hc.symm⟩
  ·have h1: ¬(i:Int)<(M:Int):=by omega
   rw[ao6 gv (by omega)]at hc;simp only[go_sem,h1];refine call (eb a.length b.length) [] ?_;simp only[go_sem];exact hc.symm
end Go.Proofs.Am
