/- CThree. -/
import Derived.Test.YthidogjdclkoeaaGreatDoorCOne
import Derived.Shelf.Small.Strs
set_option maxHeartbeats 1000000
set_option maxRecDepth 100000
set_option linter.unusedSimpArgs false
set_option linter.unusedVariables false
namespace Go.Proofs.Am
open Go Go.RowKit
open Go.Proofs
theorem mu(x m:Int):Den Tryz.prog 122 [.int .i64 x,.int .i64 m] [] (.bool (inB x 0 m)) [] []:=by
 refine aa Tryz.func122 rfl Tryz.call122 Tryz.ntmps122 Tryz.results122 (by simp) (by kernel_rfl) [] (exts:=[]) rfl rfl ?_;by_cases h:0<=x
 ·simp only[go_sem,h,inB]
 ·simp only[go_sem,h,inB]
theorem abr(x:Int):Den Tryz.prog 121 [.int .i64 x] [] (.bool (inB x 0 63)) [] []:=by
 refine aa Tryz.func121 rfl Tryz.call121 Tryz.ntmps121 Tryz.results121 (by simp) (by kernel_rfl) [] (exts:=[]) rfl rfl ?_;by_cases h:0<=x
 ·by_cases h':x<64
  ·have:inB x 0 63=true:=decide_eq_true (by omega);simp only[go_sem,h,h',this]
  ·have:inB x 0 63=false:=decide_eq_false (by omega);simp only[go_sem,h,h',this]
 ·have:inB x 0 63=false:=decide_eq_false (by omega);simp only[go_sem,h,this]
theorem anr(l:List Pn)(hl:big l.length):Den Tryz.prog 124 [.vs (l.map pn)] [] (.bool (j1 l)) [] []:=by
 refine aa Tryz.func124 rfl Tryz.call124 Tryz.ntmps124 Tryz.results124 (by simp) (by kernel_rfl) [] (exts:=[]) rfl rfl ?_;simp only[go_sem];refine loop Tryz.mixed 0 (fun i:Nat=>[(0,.vs (l.map pn)),(3,.int .i64 i)]) (fun i=>[]) (fun i=>i<=l.length/\∀j,j<i->lh l j=true) (fun i=>l.length - i) (by kernel_rfl) ?_ ?_ ?_
 ·simp
 ·simp only[go_sem]
 ·rintro i ⟨hi,hp⟩;by_cases hi':i<l.length
  ·have hlt:(i:Int)<(l.length:Int):=by omega
   simp only[go_sem,hlt,hi'];refine call (abr (el l i).au) [] ?_
   cases e1:inB (el l i).au 0 63
   ·have hq:lh l i=false:=by simp[lh,e1]
    simp only[go_sem];exact⟨ae (by kernel_rfl),(bu hi' hq).symm⟩
   ·have tail: ∀(_:(decide (0<i)&&decide ((el l i).au<=(el l (i - 1)).au))=false),∀b,b=(inB (el l i).he 1 200&&decide ((el l i).di.length=32))->lh l i=b:=fun h b hb=>by
     rw[hb,lh,e1,h];simp
    by_cases e2:0<i
    ·have e2':(0:Int)<(i:Int):=by omega
     have e3:IntKind.i64.wrap ((i:Int) - 1)=((i - 1:Nat):Int):=by rw[ai]<;>omega
     have e4:i - 1<l.length:=by omega
     by_cases e5:(el l i).au<=(el l (i - 1)).au
     ·have hq:lh l i=false:=by simp[lh,e1,e2,e5]
      simp only[go_sem,e2',e3,e4,e5];exact⟨ae (by kernel_rfl),(bu hi' hq).symm⟩
     have tail:=tail (by simp[e5]);by_cases e6:(el l i).he<1
     ·have hq:=tail false (by rw[inB,decide_eq_false (by omega)];rfl);simp only[go_sem,e2',e3,e4,e5,e6];exact⟨ae (by kernel_rfl),(bu hi' hq).symm⟩
     by_cases e6':200<(el l i).he
     ·have hq:=tail false (by rw[inB,decide_eq_false (by omega)];rfl);simp only[go_sem,e2',e3,e4,e5,e6,e6'];exact⟨ae (by kernel_rfl),(bu hi' hq).symm⟩
     have e66:inB (el l i).he 1 200=true:=decide_eq_true (by omega);by_cases e7:(el l i).di.length=32
     ·have hq:=tail true (by simp[e66,e7]);have e7':((el l i).di.length:Int)=32:=by omega
      simp only[go_sem,e2',e3,e4,e5,e6,e6',e7'];refine⟨ae (by kernel_rfl),i+1,⟨⟨by omega,fun j hj=> ?_⟩,by omega⟩,by rw[ai]<;>omega⟩;by_cases hji:j=i
      ·rw[hji];exact hq
      ·exact hp j (by omega)
     ·have hq:=tail false (by simp[e7]);have e7': ¬((el l i).di.length:Int)=32:=by omega
      simp only[go_sem,e2',e3,e4,e5,e6,e6',e7'];exact⟨ae (by kernel_rfl),(bu hi' hq).symm⟩
    ·have e2': ¬(0:Int)<(i:Int):=by omega
     have tail:=tail (by simp[e2]);by_cases e6:(el l i).he<1
     ·have hq:=tail false (by rw[inB,decide_eq_false (by omega)];rfl);simp only[go_sem,e2',e6];exact⟨ae (by kernel_rfl),(bu hi' hq).symm⟩
     by_cases e6':200<(el l i).he
     ·have hq:=tail false (by rw[inB,decide_eq_false (by omega)];rfl);simp only[go_sem,e2',e6,e6'];exact⟨ae (by kernel_rfl),(bu hi' hq).symm⟩
     have e66:inB (el l i).he 1 200=true:=decide_eq_true (by omega);by_cases e7:(el l i).di.length=32
     ·have hq:=tail true (by simp[e66,e7]);have e7':((el l i).di.length:Int)=32:=by omega
      simp only[go_sem,e2',e6,e6',e7'];refine⟨ae (by kernel_rfl),i+1,⟨⟨by omega,fun j hj=> ?_⟩,by omega⟩,by rw[ai]<;>omega⟩;by_cases hji:j=i
      ·rw[hji];exact hq
      ·exact hp j (by omega)
     ·have hq:=tail false (by simp[e7]);have e7': ¬((el l i).di.length:Int)=32:=by omega
      simp only[go_sem,e2',e6,e6',e7'];exact⟨ae (by kernel_rfl),(bu hi' hq).symm⟩
  ·have hf: ¬((i:Int)<(l.length:Int)):=by omega
   have:i=l.length:=by omega
   subst this;simp only[go_sem,hf];exact(q8 hp).symm
def pr(s:Stm):Bool:=inB s.nu 0 199&&(ja s.a&&(ja s.b&&(ja s.c&&(!(s.li.any fun x=> !ja x)&&ef s))))
theorem a5k{l:List Int}{p:Int->Bool}{i:Nat}(hi:i<l.length)(h:p (el l i)=true):l.any p=true:=List.any_eq_true.2 ⟨_,gj hi,h⟩
theorem a5m{l:List Int}{p:Int->Bool}(h: ∀j,j<l.length->p (el l j)=false):l.any p=false:=by
 rw[List.any_eq_false];intro x hx;obtain⟨j,hj,rfl⟩:=w6 hx;rw[h j hj];simp
theorem aa3(x:Int):inB x 0 1099511627776=ja x:=rfl
theorem af6(s:Stm)(hl:big s.li.length):Den Tryz.prog 123 [.agg (sm s)] [] (.bool (pr s)) [] []:=by
 refine aa Tryz.func123 rfl Tryz.call123 Tryz.ntmps123 Tryz.results123 (by simp) (by kernel_rfl) [] (exts:=[]) rfl rfl ?_;generalize hm:pr s=m;simp only[go_sem];refine call (mu s.nu 199) [] ?_
 cases e1:inB s.nu 0 199
 ·simp only[go_sem];rw[<-hm];simp[pr,e1]
 simp only[go_sem];refine call (mu s.a 1099511627776) [] ?_;rw[aa3]
 cases e2:ja s.a
 ·simp only[go_sem];rw[<-hm];simp[pr,e1,e2]
 simp only[go_sem];refine call (mu s.b 1099511627776) [] ?_;rw[aa3]
 cases e3:ja s.b
 ·simp only[go_sem];rw[<-hm];simp[pr,e1,e2,e3]
 simp only[go_sem];refine call (mu s.c 1099511627776) [] ?_;rw[aa3]
 cases e4:ja s.c
 ·simp only[go_sem];rw[<-hm];simp[pr,e1,e2,e3,e4]
 simp only[go_sem];refine loop Tryz.mixed 0 (fun i:Nat=>[(1,.ptr 1 0),(3,.int .i64 i)]) (fun i=>[(1,.cells (sm s))]) (fun i=>i<=s.li.length/\∀j,j<i->ja (el s.li j)=true) (fun i=>s.li.length - i) (by kernel_rfl) ?_ ?_ ?_
 ·simp
 ·simp only[go_sem]
 ·rintro i ⟨hi,hp⟩;by_cases hi':i<s.li.length
  ·have hlt:(i:Int)<(s.li.length:Int):=by omega
   simp only[go_sem,hlt,hi'];refine call (mu (el s.li i) 1099511627776) [] ?_;rw[aa3]
   cases e5:ja (el s.li i)
   ·have:=a5k (p:=fun x=> !ja x) hi' (by simp[e5]);simp only[go_sem];rw[<-hm];simp only[pr,e1,e2,e3,e4,this];simp
   ·simp only[go_sem];refine⟨i+1,⟨⟨by omega,fun j hj=> ?_⟩,by omega⟩,by rw[ai]<;>omega⟩;by_cases hji:j=i
    ·rw[hji];exact e5
    ·exact hp j (by omega)
  ·have hf: ¬((i:Int)<(s.li.length:Int)):=by omega
   have:i=s.li.length:=by omega
   subst this;have e5:=a5m (l:=s.li) (p:=fun x=> !ja x) fun j hj=>by simp[hp j hj]
   have hm:ef s=m:=by rw[<-hm];simp only[pr,e1,e2,e3,e4,e5];simp
   clear hp;by_cases k1:s.kd=1
   ·have hmm:ef s=(inB s.a 0 63&&decide (s.a≠s.au)&&inB s.b 1 3&&inB s.c s.ti 2147483648):=if_pos k1;rw[hmm]at hm;clear hmm;simp only[go_sem,hf,k1];refine call (abr s.a) [] ?_
    cases f1:inB s.a 0 63
    ·rw[f1]at hm;simp only[go_sem];rw[<-hm];simp
    rw[f1]at hm;by_cases f2:s.a=s.au
    ·simp only[go_sem,f2];rw[<-hm];simp[f2]
    by_cases f3:1<=s.b
    rotate_left
    ·have:inB s.b 1 3=false:=decide_eq_false (by omega);simp only[go_sem,f2,f3];rw[<-hm];simp[this]
    by_cases f4:s.b<=3
    rotate_left
    ·have:inB s.b 1 3=false:=decide_eq_false (by omega);simp only[go_sem,f2,f3,f4];rw[<-hm];simp[this]
    have h5:inB s.b 1 3=true:=decide_eq_true (by omega);by_cases f5:s.ti<=s.c
    rotate_left
    ·have:inB s.c s.ti 2147483648=false:=decide_eq_false (by omega);simp only[go_sem,f2,f3,f4,f5];rw[<-hm];simp[this]
    by_cases f6:s.c<=2147483648
    ·have:inB s.c s.ti 2147483648=true:=decide_eq_true (by omega);simp only[go_sem,f2,f3,f4,f5,f6];rw[<-hm];simp[this,h5,f2]
    ·have:inB s.c s.ti 2147483648=false:=decide_eq_false (by omega);simp only[go_sem,f2,f3,f4,f5,f6];rw[<-hm];simp[this]
   by_cases k2:s.kd=2
   ·have hmm:ef s=(inB s.a 0 199&&decide (s.b=0)&&decide (s.c=0)):=by rw[ef,if_neg k1,if_pos k2]
    rw[hmm]at hm;clear hmm;simp only[go_sem,hf,k1,k2];refine call (mu s.a 199) [] ?_
    cases f1:inB s.a 0 199
    ·rw[f1]at hm;simp only[go_sem];rw[<-hm];simp
    rw[f1]at hm;by_cases f2:s.b=0
    ·simp only[go_sem,f2];rw[<-hm];simp[f2]
    ·simp only[go_sem,f2];rw[<-hm];simp[f2]
   by_cases k3:s.kd=3
   ·have hmm:ef s=(decide (s.a=0)&&decide (s.b=0)&&decide (s.c=0)):=by rw[ef,if_neg k1,if_neg k2,if_pos k3]
    rw[hmm]at hm;clear hmm;by_cases f1:s.a=0
    ·by_cases f2:s.b=0
     ·simp only[go_sem,hf,k1,k2,k3,f1,f2];rw[<-hm];simp[f1,f2]
     ·simp only[go_sem,hf,k1,k2,k3,f1,f2];rw[<-hm];simp[f2]
    ·simp only[go_sem,hf,k1,k2,k3,f1];rw[<-hm];simp[f1]
   ·have hmm:ef s=true:=by rw[ef,if_neg k1,if_neg k2,if_neg k3]
    simp only[go_sem,hf,k1,k2,k3];rw[<-hm];exact hmm.symm
theorem azw{s:Stm}(h:pr s=true):(!inB s.nu 0 199|| !ja s.a|| !ja s.b|| !ja s.c|| !ef s||s.li.any fun x=> !ja x)=false:=by
 simp only[pr,Bool.and_eq_true,Bool.not_eq_true']at h;obtain⟨h1,h2,h3,h4,h5,h6⟩:=h;simp only[h1,h2,h3,h4,h5,h6];rfl
theorem azq{s:Stm}(h:pr s=false):(!inB s.nu 0 199|| !ja s.a|| !ja s.b|| !ja s.c|| !ef s||s.li.any fun x=> !ja x)=true:=by
 cases hh:(!inB s.nu 0 199|| !ja s.a|| !ja s.b|| !ja s.c|| !ef s||s.li.any fun x=> !ja x)with
 |true=>rfl
 |false=>
  simp only[Bool.or_eq_false_iff,Bool.not_eq_false']at hh;obtain⟨⟨⟨⟨⟨h1,h2⟩,h3⟩,h4⟩,h5⟩,h6⟩:=hh;rw[pr,h1,h2,h3,h4,h5,h6]at h
  cases h
theorem wj(s:Stm)(hs:uv s):Den Tryz.prog 93 [.agg (sm s)] [] (.int .i64 (am s)) [] []:=by
 obtain⟨hbl,hbp⟩:=hs;refine aa Tryz.func93 rfl Tryz.call93 Tryz.ntmps93 Tryz.results93 (by simp) (by kernel_rfl) [] (exts:=[]) rfl rfl ?_;generalize hm:am s=m;have cn:=af6 s hbl;rw[awx]at cn;have cp:=anr s.pins hbp;simp only[go_sem];refine call (abr s.au) [] ?_
 cases e1:inB s.au 0 63
 ·simp only[go_sem];rw[<-hm];simp only[am,e1];rfl
 by_cases k1:s.kd<1
 ·have ek:(!inB s.kd 1 3&& !inB s.kd 10 31)=true:=by rw[inB,inB,decide_eq_false (by omega),decide_eq_false (by omega)];rfl
  simp only[go_sem,k1];rw[<-hm];simp only[am,e1,ek];rfl
 by_cases kk:s.kd<=3
 ·have k2: ¬3<s.kd:=by omega
  have k4: ¬31<s.kd:=by omega
  have ek:(!inB s.kd 1 3&& !inB s.kd 10 31)=false:=by rw[inB,decide_eq_true (by omega)];rfl
  simp only[go_sem,k1,k2,k4,kk];refine call (mu s.ti 2147483648) [] ?_
  cases e4:inB s.ti 0 2147483648
  ·simp only[go_sem];rw[<-hm];simp[am,e1,ek,e4]
  simp only[go_sem];refine call cn [] ?_
  cases e5:pr s
  ·have e5':=azq e5;simp only[go_sem];rw[<-hm];simp only[am,e1,ek,e4,e5'];rfl
  have e5':=azw e5;by_cases l1:(64:Int)<(s.li.length:Int)
  ·have elen:(decide (64<s.li.length)||decide (64<s.pins.length)||decide (4096<s.body.length))=true:=by simp;omega
   simp only[go_sem,l1];rw[<-hm];simp only[am,e1,ek,e4,e5',elen];rfl
  by_cases l2:(64:Int)<(s.pins.length:Int)
  ·have elen:(decide (64<s.li.length)||decide (64<s.pins.length)||decide (4096<s.body.length))=true:=by simp;omega
   simp only[go_sem,l1,l2];rw[<-hm];simp only[am,e1,ek,e4,e5',elen];rfl
  by_cases l3:(4096:Int)<(s.body.length:Int)
  ·have elen:(decide (64<s.li.length)||decide (64<s.pins.length)||decide (4096<s.body.length))=true:=by simp;omega
   simp only[go_sem,l1,l2,l3];rw[<-hm];simp only[am,e1,ek,e4,e5',elen];rfl
  have elen:(decide (64<s.li.length)||decide (64<s.pins.length)||decide (4096<s.body.length))=false:=by simp;omega
  have hm:(if((decide (s.nu=0)&&decide (s.prev≠[]))||(decide (0<s.nu)&&decide (s.prev.length≠32))|| !j1 s.pins||(decide (s.kd<=3)&&decide (0<s.li.length+s.pins.length+s.body.length)))=true then 1
   else(0:Int))=m:=by rw[<-hm];simp only[am,e1,ek,e4,e5',elen];rfl
  by_cases n0:s.nu=0
  ·by_cases n1:s.prev=[]
   ·skip
    simp only[go_sem,l1,l2,l3,n0,n1];refine call cp [] ?_
    cases e14:j1 s.pins
    ·simp only[go_sem];rw[<-hm];simp[e14]
    by_cases g1:(0:Int)<(s.li.length:Int)
    ·simp only[go_sem,kk,g1];rw[if_pos (by simp[kk];omega)]at hm;exact hm
    by_cases g2:(0:Int)<(s.pins.length:Int)
    ·simp only[go_sem,kk,g1,g2];rw[if_pos (by simp[kk];omega)]at hm;exact hm
    by_cases g3:s.body=[]
    ·simp only[go_sem,kk,g1,g2,g3];have g4:s.body.length=0:=by rw[g3];rfl
     have elz:decide (0<s.li.length+s.pins.length+s.body.length)=false:=decide_eq_false (by omega);rw[elz,e14,if_neg (by simp[n0,n1])]at hm;exact hm
    ·have:0<s.body.length:=List.length_pos_iff.2 g3;simp only[go_sem,kk,g1,g2,g3];rw[if_pos (by simp[kk];omega)]at hm;exact hm
   ·simp only[go_sem,l1,l2,l3,n0,n1];rw[if_pos (by simp[n0,n1])]at hm;exact hm
  by_cases n2:0<s.nu
  ·by_cases n3:(s.prev.length:Int)=32
   ·have n3':s.prev.length=32:=by omega
    simp only[go_sem,l1,l2,l3,n0,n2,n3];refine call cp [] ?_
    cases e14:j1 s.pins
    ·simp only[go_sem];rw[<-hm];simp[e14]
    by_cases g1:(0:Int)<(s.li.length:Int)
    ·simp only[go_sem,kk,g1];rw[if_pos (by simp[kk];omega)]at hm;exact hm
    by_cases g2:(0:Int)<(s.pins.length:Int)
    ·simp only[go_sem,kk,g1,g2];rw[if_pos (by simp[kk];omega)]at hm;exact hm
    by_cases g3:s.body=[]
    ·simp only[go_sem,kk,g1,g2,g3];have g4:s.body.length=0:=by rw[g3];rfl
     have elz:decide (0<s.li.length+s.pins.length+s.body.length)=false:=decide_eq_false (by omega);rw[elz,e14,if_neg (by simp[n0,n2,n3'])]at hm;exact hm
    ·have:0<s.body.length:=List.length_pos_iff.2 g3;simp only[go_sem,kk,g1,g2,g3];rw[if_pos (by simp[kk];omega)]at hm;exact hm
   ·have n3': ¬s.prev.length=32:=by omega
    simp only[go_sem,l1,l2,l3,n0,n2,n3];rw[if_pos (by simp[n2,n3'])]at hm;exact hm
  simp only[go_sem,l1,l2,l3,n0,n2];refine call cp [] ?_
  cases e14:j1 s.pins
  ·simp only[go_sem];rw[<-hm];simp[e14]
  by_cases g1:(0:Int)<(s.li.length:Int)
  ·simp only[go_sem,kk,g1];rw[if_pos (by simp[kk];omega)]at hm;exact hm
  by_cases g2:(0:Int)<(s.pins.length:Int)
  ·simp only[go_sem,kk,g1,g2];rw[if_pos (by simp[kk];omega)]at hm;exact hm
  by_cases g3:s.body=[]
  ·simp only[go_sem,kk,g1,g2,g3];have g4:s.body.length=0:=by rw[g3];rfl
   have elz:decide (0<s.li.length+s.pins.length+s.body.length)=false:=decide_eq_false (by omega);rw[elz,e14,if_neg (by simp[n0,n2])]at hm;exact hm
  ·have:0<s.body.length:=List.length_pos_iff.2 g3;simp only[go_sem,kk,g1,g2,g3];rw[if_pos (by simp[kk];omega)]at hm;exact hm
 have k2:3<s.kd:=by omega
 by_cases k3:s.kd<10
 ·have ek:(!inB s.kd 1 3&& !inB s.kd 10 31)=true:=by rw[inB,inB,decide_eq_false (by omega),decide_eq_false (by omega)];rfl
  simp only[go_sem,k1,k2,k3];rw[<-hm];simp only[am,e1,ek];rfl
 by_cases k4:31<s.kd
 ·have ek:(!inB s.kd 1 3&& !inB s.kd 10 31)=true:=by rw[inB,inB,decide_eq_false (by omega),decide_eq_false (by omega)];rfl
  simp only[go_sem,k1,k2,k3,k4];rw[<-hm];simp only[am,e1,ek];rfl
 have ek:(!inB s.kd 1 3&& !inB s.kd 10 31)=false:=by rw[inB,inB,decide_eq_false (by omega),decide_eq_true (by omega)];rfl
 simp only[go_sem,k1,k2,k3,k4];refine call (mu s.ti 2147483648) [] ?_
 cases e4:inB s.ti 0 2147483648
 ·simp only[go_sem];rw[<-hm];simp[am,e1,ek,e4]
 simp only[go_sem];refine call cn [] ?_
 cases e5:pr s
 ·have e5':=azq e5;simp only[go_sem];rw[<-hm];simp only[am,e1,ek,e4,e5'];rfl
 have e5':=azw e5;by_cases l1:(64:Int)<(s.li.length:Int)
 ·have elen:(decide (64<s.li.length)||decide (64<s.pins.length)||decide (4096<s.body.length))=true:=by simp;omega
  simp only[go_sem,l1];rw[<-hm];simp only[am,e1,ek,e4,e5',elen];rfl
 by_cases l2:(64:Int)<(s.pins.length:Int)
 ·have elen:(decide (64<s.li.length)||decide (64<s.pins.length)||decide (4096<s.body.length))=true:=by simp;omega
  simp only[go_sem,l1,l2];rw[<-hm];simp only[am,e1,ek,e4,e5',elen];rfl
 by_cases l3:(4096:Int)<(s.body.length:Int)
 ·have elen:(decide (64<s.li.length)||decide (64<s.pins.length)||decide (4096<s.body.length))=true:=by simp;omega
  simp only[go_sem,l1,l2,l3];rw[<-hm];simp only[am,e1,ek,e4,e5',elen];rfl
 have elen:(decide (64<s.li.length)||decide (64<s.pins.length)||decide (4096<s.body.length))=false:=by simp;omega
 have hm:(if((decide (s.nu=0)&&decide (s.prev≠[]))||(decide (0<s.nu)&&decide (s.prev.length≠32))|| !j1 s.pins||(decide (s.kd<=3)&&decide (0<s.li.length+s.pins.length+s.body.length)))=true then 1
  else(0:Int))=m:=by rw[<-hm];simp only[am,e1,ek,e4,e5',elen];rfl
 by_cases n0:s.nu=0
 ·by_cases n1:s.prev=[]
  ·skip
   simp only[go_sem,l1,l2,l3,n0,n1];refine call cp [] ?_
   cases e14:j1 s.pins
   ·simp only[go_sem];rw[<-hm];simp[e14]
   simp only[go_sem,kk];rw[if_neg (by simp[kk,e14,n0,n1])]at hm;exact hm
  ·simp only[go_sem,l1,l2,l3,n0,n1];rw[if_pos (by simp[n0,n1])]at hm;exact hm
 by_cases n2:0<s.nu
 ·by_cases n3:(s.prev.length:Int)=32
  ·have n3':s.prev.length=32:=by omega
   simp only[go_sem,l1,l2,l3,n0,n2,n3];refine call cp [] ?_
   cases e14:j1 s.pins
   ·simp only[go_sem];rw[<-hm];simp[e14]
   simp only[go_sem,kk];rw[if_neg (by simp[kk,e14,n0,n2,n3'])]at hm;exact hm
  ·have n3': ¬s.prev.length=32:=by omega
   simp only[go_sem,l1,l2,l3,n0,n2,n3];rw[if_pos (by simp[n2,n3'])]at hm;exact hm
 simp only[go_sem,l1,l2,l3,n0,n2];refine call cp [] ?_
 cases e14:j1 s.pins
 ·simp only[go_sem];rw[<-hm];simp[e14]
 simp only[go_sem,kk];rw[if_neg (by simp[kk,e14,n0,n2])]at hm;exact hm
theorem aoc(s:Stm)(hs:okS s):Den Tryz.prog 93 [.agg (sm s)] [] (.int .i64 (am s)) [] []:=wj s hs.big
theorem aik(s:Stm)(hs:okS s):Den Tryz.prog 149 [.agg (sm s)] [] (.bool (decide (s.sk=s.au/\s.sd=dig s))) [] []:=by
 refine aa Tryz.func149 rfl Tryz.call149 Tryz.ntmps149 Tryz.results149 (by simp) (by kernel_rfl) [] (exts:=[]) rfl rfl ?_;by_cases h1:s.sk=s.au
 ·simp only[go_sem,h1];refine call (akh s hs) [] ?_;simp only[go_sem,h1];exact ae (by kernel_rfl)
 ·simp only[go_sem,h1];exact ae (by kernel_rfl)
structure Ct where
 li:List Int
 pi:List Pn
deriving Inhabited,DecidableEq
def ct(x:Ct):List PV:=[.vs (x.li.map i1),.vs (x.pi.map pn)]
theorem il(x:Ct):ct x=[.vs (x.li.map i1),.vs (x.pi.map pn)]:=(rfl)
attribute [go_sem] il
def pa(x:Ct):Prop:=x.li.length<=1000000/\(x.pi.flatMap pnB).length<=100000000
def adb(l:List Pn):Stm:=⟨0,0,[],0,10,0,0,0,[],l,[],0,[]⟩
theorem auj{x:Ct}(h:pa x):okS (adb x.pi):=by
 obtain⟨h1,h2⟩:=h;simp only[adb,okS,stB,ui,aan,hdB,List.length_append,dw,aw,fe,l5,List.length_cons,List.length_nil];omega
def abi(k:Int)(l:List Int):Bool:=
 if k=1 then decide (l.length=2/\0<=el l 0/\el l 0<4294967296/\0<=el l 1/\el l 1<4294967296)else decide (l.length=1/\(el l 0=0\/el l 0=1))
def et(c:Cs)(x:Ct):Bool:=fq c&&(decide (am (adb x.pi)=0)&&abi c.kd x.li)
theorem ae7(c:Cs)(x:Ct)(hx:pa x):Den Tryz.prog 70 [.agg (cs c),.agg (ct x)] [] (.bool (et c x)) [] []:=by
 refine aa Tryz.func70 rfl Tryz.call70 Tryz.ntmps70 Tryz.results70 (by simp) (by kernel_rfl) [] (exts:=[]) rfl rfl ?_;have c1:=my c;rw[dt]at c1;have c2:=aoc (adb x.pi) (auj hx);rw[show sm (adb x.pi)=[.int .i64 0,.int .i64 0,.str [],.int .i64 0,.int .i64 10,.int .i64 0,.int .i64 0,.int .i64 0,.vs [],.vs (x.pi.map pn),.str [],.int .i64 0,.str []] from rfl]at c2;generalize hm:et c x=m;simp only[go_sem];refine call c1 [] ?_
 cases a1:fq c
 ·simp only[go_sem];rw[<-hm];simp[et,a1]
 simp only[go_sem];refine call c2 [] ?_;by_cases a2:am (adb x.pi)=0
 rotate_left
 ·simp only[go_sem,a2];rw[<-hm];simp[et,a2]
 have hm:abi c.kd x.li=m:=by rw[<-hm];simp[et,a1,a2]
 by_cases k1:c.kd=1
 ·have hm:decide (x.li.length=2/\0<=el x.li 0/\el x.li 0<4294967296/\0<=el x.li 1/\el x.li 1<4294967296)=m:=by rw[<-hm,abi,if_pos k1]
  by_cases g1:(x.li.length:Int)=2
  rotate_left
  ·simp only[go_sem,a2,k1,g1];rw[<-hm];exact(decide_eq_false (by omega)).symm
  have h0:0<x.li.length:=by omega
  have h1:1<x.li.length:=by omega
  have h0':(0:Int)<(x.li.length:Int):=by omega
  have h1':(1:Int)<(x.li.length:Int):=by omega
  by_cases g2:0<=el x.li 0
  rotate_left
  ·simp only[go_sem,a2,k1,g1,h0,h1,h0',h1',g2];rw[<-hm];exact(decide_eq_false (by omega)).symm
  by_cases g3:el x.li 0<4294967296
  rotate_left
  ·simp only[go_sem,a2,k1,g1,h0,h1,h0',h1',g2,g3];rw[<-hm];exact(decide_eq_false (by omega)).symm
  by_cases g4:0<=el x.li 1
  rotate_left
  ·simp only[go_sem,a2,k1,g1,h0,h1,h0',h1',g2,g3,g4];rw[<-hm];exact(decide_eq_false (by omega)).symm
  simp only[go_sem,a2,k1,g1,h0,h1,h0',h1',g2,g3,g4];rw[<-hm];exact decide_eq_decide.2 (by omega)
 ·have hm:decide (x.li.length=1/\(el x.li 0=0\/el x.li 0=1))=m:=by rw[<-hm,abi,if_neg k1]
  by_cases g1:(x.li.length:Int)=1
  rotate_left
  ·simp only[go_sem,a2,k1,g1];rw[<-hm];exact(decide_eq_false (by omega)).symm
  have h0:0<x.li.length:=by omega
  have h0':(0:Int)<(x.li.length:Int):=by omega
  by_cases g2:el x.li 0=0
  ·simp only[go_sem,a2,k1,g1,h0,h0',g2];rw[<-hm];exact(decide_eq_true (by omega)).symm
  ·simp only[go_sem,a2,k1,g1,h0,h0',g2];rw[<-hm];exact decide_eq_decide.2 (by omega)
def auf(c:Cs):Int:=if fq c then c.kd+16*c.ro else 0
theorem ax3(c:Cs):Den Tryz.prog 71 [.agg (cs c)] [] (.int .i64 (auf c)) [] []:=by
 refine aa Tryz.func71 rfl Tryz.call71 Tryz.ntmps71 Tryz.results71 (by simp) (by kernel_rfl) [] (exts:=[]) rfl rfl ?_;have c1:=my c;rw[dt]at c1;simp only[go_sem];refine call c1 [] ?_
 cases a1:fq c
 ·simp only[go_sem];rw[auf,a1];rfl
 ·have hc:=of_decide_eq_true a1;have e1:IntKind.i64.wrap (16*c.ro)=16*c.ro:=by rw[ai]<;>omega
  have e2:IntKind.i64.wrap (c.kd+16*c.ro)=c.kd+16*c.ro:=by rw[ai]<;>omega
  simp only[go_sem,e1,e2];rw[auf,a1];rfl
def jx(c:Cs)(x:Ct):Drf×Int:=if fq c=false then(noD,41)else if et c x=false then(noD,42)else(⟨10,c.ep,c.kd+16*c.ro,c.su,x.li,x.pi⟩,0)
theorem aln(c:Cs)(x:Ct)(hx:pa x):Den Tryz.prog 51 [.agg (cs c),.agg (ct x)] [] (.tup [.agg (dr (jx c x).1),.int .i64 (jx c x).2]) [] []:=by
 refine aa Tryz.func51 rfl Tryz.call51 Tryz.ntmps51 Tryz.results51 (by simp) (by kernel_rfl) [] (exts:=[]) rfl rfl ?_;have c1:=my c;rw[dt]at c1;have c2:=ae7 c x hx;rw[dt,il]at c2;have c3:=ax3 c;rw[dt]at c3;have hxp:=n8 x.pi;obtain⟨hx1,hx2⟩:=hx;simp only[go_sem];refine call c1 [] ?_
 cases a1:fq c
 ·have e1:jx c x=(noD,41):=by rw[jx,if_pos a1]
  rw[e1];simp only[go_sem,noD]
  all_goals rfl
 simp only[go_sem];refine call c2 [] ?_
 cases a2:et c x
 ·have e1:jx c x=(noD,42):=by rw[jx,if_neg (by simp[a1]),if_pos a2]
  rw[e1];simp only[go_sem,noD]
  all_goals rfl
 have e1:jx c x=(⟨10,c.ep,c.kd+16*c.ro,c.su,x.li,x.pi⟩,0):=by rw[jx,if_neg (by simp[a1]),if_neg (by simp[a2])]
 rw[e1];have e2:auf c=c.kd+16*c.ro:=by rw[auf,a1];rfl
 rw[e2]at c3;simp only[go_sem];refine call c3 [] ?_;simp only[go_sem];exact⟨by omega,by omega,ae (by kernel_rfl)⟩
def a8b(d:Drf):Prop:=d.li.length<=1000000/\(d.pins.flatMap pnB).length<=100000000
theorem as1(au nu ti:Int)(d:Drf)(hd:a8b d):Den Tryz.prog 52 [.int .i64 au,.int .i64 nu,.int .i64 ti,.agg (dr d)] [] (.agg (sm (aoq au nu ti d))) [] []:=by
 refine aa Tryz.func52 rfl Tryz.call52 Tryz.ntmps52 Tryz.results52 (by simp) (by kernel_rfl) [] (exts:=[]) rfl rfl ?_;have hxp:=n8 d.pins;obtain⟨h1,h2⟩:=hd
 have hok: ∀p:List UInt8,p.length<=32->okS ⟨au,nu,p,ti,d.kd,d.a,d.b,d.c,d.li,d.pins,[],0,[]⟩:=fun p hp=>by
  simp only[okS,stB,ui,aan,hdB,List.length_append,dw,aw,fe,l5,List.length_cons,List.length_nil];omega
 by_cases hn:0<nu
 ·have he:List.replicate 32 [agc (PV.int IntKind.u8 0)]=(List.replicate 32 (0:UInt8)).map u8:=by rw[List.map_replicate];rfl
  have hs:aoq au nu ti d=al4 ⟨au,nu,List.replicate 32 0,ti,d.kd,d.a,d.b,d.c,d.li,d.pins,[],0,[]⟩:=by rw[aoq,if_pos hn]
  rw[hs];simp only[go_sem,hn];refine⟨by omega,by omega,ae (by kernel_rfl),_,he,?_⟩;refine call (akd ⟨au,nu,List.replicate 32 0,ti,d.kd,d.a,d.b,d.c,d.li,d.pins,[],0,[]⟩ (hok _ (by simp))) [] ?_;simp only[go_sem]
 ·have hs:aoq au nu ti d=al4 ⟨au,nu,[],ti,d.kd,d.a,d.b,d.c,d.li,d.pins,[],0,[]⟩:=by rw[aoq,if_neg hn]
  rw[hs];simp only[go_sem,hn];refine⟨by omega,by omega,ae (by kernel_rfl),?_⟩;refine call (akd ⟨au,nu,[],ti,d.kd,d.a,d.b,d.c,d.li,d.pins,[],0,[]⟩ (hok _ (by simp))) [] ?_;simp only[go_sem]
theorem afc(c:Cs)(x:Ct)(hx:pa x):a8b (jx c x).1:=by
 unfold jx;split
 ·exact⟨by simp[noD],by simp[noD]⟩
 split
 ·exact⟨by simp[noD],by simp[noD]⟩
 ·exact hx
def vt(au nu:Int)(c:Cs)(x:Ct):Stm:=aoq au nu 1 (jx c x).1
theorem uo(au nu:Int)(c:Cs)(x:Ct)(hx:pa x):Den Tryz.prog 23 [.int .i64 au,.int .i64 nu,.agg (cs c),.agg (ct x)] [] (.agg (sm (vt au nu c x))) [] []:=by
 refine aa Tryz.func23 rfl Tryz.call23 Tryz.ntmps23 Tryz.results23 (by simp) (by kernel_rfl) [] (exts:=[]) rfl rfl ?_;have c2:=aln c x hx;rw[dt,il]at c2;have c3:=as1 au nu 1 (jx c x).1 (afc c x hx);have hv:vt au nu c x=aoq au nu 1 (jx c x).1:=rfl;rw[hv];generalize hd:(jx c x).1=d at*;generalize aoq au nu 1 d=s at*;simp only[go_sem];refine call c2 [] ?_;rw[a5x]at c3;simp only[go_sem];refine call c3 [] ?_;simp only[go_sem]
def aq(l:List Int)(p:Nat)(c:Cs):Ct×Nat:=
 if c.kd≠1 then(⟨[aj l p 2],[]⟩,dgo l p 1)
 else if aj l (dgo l p 2) 4=3 then(⟨[1+aj l p 127,el ([0,0,1]:List Int) (aj l (dgo l p 1) 3).toNat],[⟨aj l (dgo l p 3) 4,1+aj l (dgo l p 4) 3,a1n l (dgo l p 5)⟩]⟩,dgo l p 7)
 else(⟨[1+aj l p 127,el ([0,0,1]:List Int) (aj l (dgo l p 1) 3).toNat],[]⟩,dgo l p 3)
theorem iz(l:List Int)(p:Nat)(c:Cs):pa (aq l p c).1:=by
 unfold aq;split
 ·exact⟨by simp,by simp⟩
 split
 ·exact⟨by simp,by simp[pnB,aw,fe,ake]⟩
 ·exact⟨by simp,by simp⟩
theorem g9{l:List Int}{p:Nat}(hp:p<=l.length)(c:Cs):(aq l p c).2<=l.length:=by
 unfold aq;split
 ·exact cy hp _
 split
 ·exact cy hp _
 ·exact cy hp _
theorem lk(l:List Int)(p:Nat)(c:Cs)(hl:big l.length)(hp:p<=l.length):Den Tryz.prog 22 [.ptr 1000000 0,.agg (cs c)] [q7 l p] (.agg (ct (aq l p c).1)) [] [q7 l (aq l p c).2]:=by
 refine aa Tryz.func22 rfl Tryz.call22 Tryz.ntmps22 Tryz.results22 (by simp) (by kernel_rfl) [] (exts:=[1000000]) rfl rfl ?_;have hp1:=cy hp 1;have hp2:=cy hp 2;have hp3:=cy hp 3;have hp4:=cy hp 4;have hp5:=cy hp 5;have e0:aca l p=dgo l p 1:=rfl;by_cases k1:c.kd=1
 rotate_left
 ·have hm:aq l p c=(⟨[aj l p 2],[]⟩,dgo l p 1):=by rw[aq,if_pos k1]
  rw[hm];simp only[go_sem,k1];refine call (ax l p 2 hl hp (by omega)) [1000000] ?_;simp only[go_sem,e0]
 have hm:aq l p c=if aj l (dgo l p 2) 4=3 then(⟨[1+aj l p 127,el ([0,0,1]:List Int) (aj l (dgo l p 1) 3).toNat],[⟨aj l (dgo l p 3) 4,1+aj l (dgo l p 4) 3,a1n l (dgo l p 5)⟩]⟩,dgo l p 7)
  else(⟨[1+aj l p 127,el ([0,0,1]:List Int) (aj l (dgo l p 1) 3).toNat],[]⟩,dgo l p 3):=by rw[aq,if_neg (by simp[k1])]
 generalize aq l p c=m at*;have b1:=bh (l:=l) (p:=p) (n:=127) (by omega);have w1:IntKind.i64.wrap (1+aj l p 127)=1+aj l p 127:=by rw[ai]<;>omega
 simp only[go_sem,k1];refine call (ax l p 127 hl hp (by omega)) [1000000] ?_;simp only[go_sem,e0];refine call (ph l (dgo l p 1) [0,0,1] hl hp1 (by simp) (by simp[big])) [1000000] ?_;simp only[go_sem,bg];refine call (acq l (dgo l p 2) 4 hl hp2 (by omega) (by omega)) [1000000] ?_
 cases h:decide (aj l (dgo l p 2) 4=4 - 1)
 ·have hc: ¬aj l (dgo l p 2) 4=3:=of_decide_eq_false h;rw[if_neg hc]at hm;subst hm;simp only[go_sem,bg,w1]
 ·have hc:aj l (dgo l p 2) 4=3:=of_decide_eq_true h;rw[if_pos hc]at hm;subst hm;simp only[go_sem,bg];refine call (ax l (dgo l p 3) 4 hl hp3 (by omega)) [1000000] ?_;simp only[go_sem,bg];refine call (ax l (dgo l p 4) 3 hl hp4 (by omega)) [1000000] ?_;have b2:=bh (l:=l) (p:=dgo l p 4) (n:=3) (by omega);have w2:IntKind.i64.wrap (1+aj l (dgo l p 4) 3)=1+aj l (dgo l p 4) 3:=by rw[ai]<;>omega
  simp only[go_sem,bg];refine call (aom l (dgo l p 5) hl hp5) [1000000] ?_;simp only[go_sem,bg,w1,w2];exact⟨by decide,rfl⟩
def kx(l:List Int)(c:Cs)(x y:Ct)(k:Int)(st:Nat×List Stm):Nat×List Stm:=
 if aj l st.1 8=0 then(dgo l st.1 2,st.2++[vt k (aj l (dgo l st.1 1) 3) c y])
 else if aj l st.1 8=1 then(dgo l st.1 3,st.2++[vt k (aj l (dgo l st.1 1) 3) c x,vt k (aj l (dgo l st.1 2) 3) c y])
 else if aj l st.1 8=2 then(dgo l st.1 2,st.2++[if aj l (dgo l st.1 1) 2=1 then {vt k 0 c x with sk:=IntKind.i64.wrap ((vt k 0 c x).sk+1)}else vt k 0 c x])
 else if aj l st.1 8=3 then(dgo l st.1 1,st.2)
 else(dgo l st.1 2,st.2++[vt k (aj l (dgo l st.1 1) 3) c x])
def nh(l:List Int)(c:Cs)(x y:Ct)(seats:List Int)(p:Nat):Nat->Nat×List Stm
 |0=>(p,[])
 |i+1=>kx l c x y (el seats i) (nh l c x y seats p i)
theorem atw{l:List Int}{c:Cs}{x y:Ct}{k:Int}{st:Nat×List Stm}(h:st.1<=l.length):(kx l c x y k st).1<=l.length:=by
 unfold kx
 (repeat' split)<;>exact cy h _
theorem al6{l:List Int}{c:Cs}{x y:Ct}{k:Int}{st:Nat×List Stm}:(kx l c x y k st).2.length<=st.2.length+2:=by
 unfold kx
 (repeat' split)<;>simp
theorem aig{l:List Int}{c:Cs}{x y:Ct}{seats:List Int}{p:Nat}(h:p<=l.length): ∀i,(nh l c x y seats p i).1<=l.length
 |0=>h
 |i+1=>atw (aig h i)
theorem uu{l:List Int}{c:Cs}{x y:Ct}{seats:List Int}{p:Nat}: ∀i,(nh l c x y seats p i).2.length<=2*i
 |0=>by simp[nh]
 |i+1=>by
  have h1:=al6 (l:=l) (c:=c) (x:=x) (y:=y) (k:=el seats i) (st:=nh l c x y seats p i);have h2:=uu (l:=l) (c:=c) (x:=x) (y:=y) (seats:=seats) (p:=p) i;simp only[nh];omega
def lr(l:List Int)(p:Nat)(c:Cs)(seats:List Int):List Stm×Nat:=
 if aj l (nh l c (aq l p c).1 (aq l (aq l p c).2 c).1 seats (aq l (aq l p c).2 c).2 seats.length).1 4=3 then
  ((nh l c (aq l p c).1 (aq l (aq l p c).2 c).1 seats (aq l (aq l p c).2 c).2 seats.length).2++[vt (aj l (dgo l (nh l c (aq l p c).1 (aq l (aq l p c).2 c).1 seats (aq l (aq l p c).2 c).2 seats.length).1 1) 9) 0 c (aq l p c).1],
   dgo l (nh l c (aq l p c).1 (aq l (aq l p c).2 c).1 seats (aq l (aq l p c).2 c).2 seats.length).1 2)
 else((nh l c (aq l p c).1 (aq l (aq l p c).2 c).1 seats (aq l (aq l p c).2 c).2 seats.length).2,
   dgo l (nh l c (aq l p c).1 (aq l (aq l p c).2 c).1 seats (aq l (aq l p c).2 c).2 seats.length).1 1)
theorem al1(l:List Int)(p:Nat)(c:Cs)(seats:List Int):(lr l p c seats).1.length<=2*seats.length+1:=by
 unfold lr;split
 ·simp only[List.length_append,List.length_cons,List.length_nil];have:=uu (l:=l) (c:=c) (x:=(aq l p c).1) (y:=(aq l (aq l p c).2 c).1) (seats:=seats) (p:=(aq l (aq l p c).2 c).2) seats.length;omega
 ·have:=uu (l:=l) (c:=c) (x:=(aq l p c).1) (y:=(aq l (aq l p c).2 c).1) (seats:=seats) (p:=(aq l (aq l p c).2 c).2) seats.length;simp only;omega
theorem apt{l:List Int}{p:Nat}(hp:p<=l.length)(c:Cs)(seats:List Int):(lr l p c seats).2<=l.length:=by
 have h:=aig (l:=l) (c:=c) (x:=(aq l p c).1) (y:=(aq l (aq l p c).2 c).1) (seats:=seats) (g9 (g9 hp c) c) seats.length;unfold lr;split
 ·exact cy h _
 ·exact cy h _
structure Tm where
 ep:Int
 ros:List Int
 bea:List UInt8
 dec:Bool
 nx:Ct
deriving Inhabited,DecidableEq
def tm(t:Tm):List PV:=[.int .i64 t.ep,.vs (t.ros.map i1),.str t.bea,.bool t.dec,.vs (t.nx.li.map i1),.vs (t.nx.pi.map pn)]
theorem jd(t:Tm):tm t=[.int .i64 t.ep,.vs (t.ros.map i1),.str t.bea,.bool t.dec,.vs (t.nx.li.map i1),.vs (t.nx.pi.map pn)]:=(rfl)
attribute [go_sem] jd
def p6(s:List Int)(i:Nat):Bool:=decide (0<=el s i/\el s i<64/\el s i∉s.take i)
def ckS(c:Cs)(s:List Int):Int:=if fq c=false then 41 else if s.length<1\/9<s.length then 44 else if ah9 (p6 s) s.length then 0 else 44
theorem agj(c:Cs)(s:List Int)(hs:big s.length):Den Tryz.prog 99 [.agg (cs c),.vs (s.map i1)] [] (.int .i64 (ckS c s)) [] []:=by
 refine aa Tryz.func99 rfl Tryz.call99 Tryz.ntmps99 Tryz.results99 (by simp) (by kernel_rfl) [] (exts:=[]) rfl rfl ?_;have c1:=my c;rw[dt]at c1;generalize hm:ckS c s=m;simp only[go_sem];refine call c1 [] ?_
 cases a1:fq c
 ·simp only[go_sem];rw[<-hm,ckS,if_pos a1]
 rw[ckS,if_neg (by simp[a1])]at hm;by_cases a2:(s.length:Int)<1
 ·simp only[go_sem,a2];rw[if_pos (.inl (by omega))]at hm;exact hm
 by_cases a3:9<(s.length:Int)
 ·simp only[go_sem,a2,a3];rw[if_pos (.inr (by omega))]at hm;exact hm
 rw[if_neg (by omega)]at hm;have hbad:ah9 (p6 s) s.length=false->m=44:=fun h=>by rw[<-hm,h];rfl
 have hgood:ah9 (p6 s) s.length=true->m=0:=fun h=>by rw[<-hm,h];rfl
 simp only[go_sem,a2,a3];refine loop Tryz.mixed 0 (fun i:Nat=>[(1,.vs (s.map i1)),(5,.int .i64 i)]) (fun i=>[]) (fun i=>i<=s.length/\∀j,j<i->p6 s j=true) (fun i=>s.length - i) (by kernel_rfl) ?_ ?_ ?_
 ·simp
 ·simp only[go_sem]
 ·rintro i ⟨hi,hp⟩;by_cases hi':i<s.length
  ·have hlt:(i:Int)<(s.length:Int):=by omega
   by_cases b1:el s i<0
   ·have hq:p6 s i=false:=decide_eq_false (by omega);simp only[go_sem,hlt,hi',b1];exact⟨ae (by kernel_rfl),(hbad (gn hi' hq)).symm⟩
   by_cases b2:64<=el s i
   ·have hq:p6 s i=false:=decide_eq_false (by omega);simp only[go_sem,hlt,hi',b1,b2];exact⟨ae (by kernel_rfl),(hbad (gn hi' hq)).symm⟩
   simp only[go_sem,hlt,hi',b1,b2];refine⟨⟨by omega,by omega⟩,call (avy (s.take i) (el s i) (by rw[List.length_take];simp only[big]at*;omega)) [] ?_⟩;by_cases b3:el s i∈s.take i
   ·have hq:p6 s i=false:=decide_eq_false (by simp[b3]);simp only[go_sem,b3];exact⟨ae (by kernel_rfl),(hbad (gn hi' hq)).symm⟩
   ·have hq:p6 s i=true:=decide_eq_true ⟨by omega,by omega,b3⟩;simp only[go_sem,b3];exact⟨ae (by kernel_rfl),i+1,⟨⟨by omega,d6 hp hq⟩,by omega⟩,by rw[ai]<;>omega⟩
  ·have hf: ¬((i:Int)<(s.length:Int)):=by omega
   have:i=s.length:=by omega
   subst this;simp only[go_sem,hf];exact(hgood (s4 hp)).symm
def noC:Ct:=⟨[],[]⟩
def ny(r:Rl)(t:Tm)(c:Cs):List Int×Int:=if c.ep≠t.ep then([],46)else ofR r t.bea t.ros c
theorem qy(k:Int):Den Tryz.prog 20 [.int .i64 k] [] (.agg (cs ⟨k,1,0,0⟩)) [] []:=by
 refine aa Tryz.func20 rfl Tryz.call20 Tryz.ntmps20 Tryz.results20 (by simp) (by kernel_rfl) [] (exts:=[]) rfl rfl ?_;simp only[go_sem]
theorem a38(r:Rl)(v:List UInt8)(l:List Int)(c:Cs):(ofR r v l c).1.length<=64:=by
 have h: ∀j prev,(nq r v l c j prev).length<=64:=fun j prev=>by
  rw[qf];have:=xw l prev;omega
 rw[yp]
 (repeat' split)<;>first|exact h _ _|simp
def mb(r:Rl):Tm:=⟨0,r.gen,zo r,false,noC⟩
def jv(a b:Int):Int:=if a<b then -1 else if b<a then 1 else 0
def n4{α:Type}(f:α->α->Int):List α->List α->Int
 |[],[]=>0
 |[],_::_=> -1
 |_::_,[]=>1
 |x::xs,y::ys=>if f x y=0 then n4 f xs ys else f x y
def or2(a b:Int):Int:=if a=0 then b else a
def orL:List Int->Int
 |[]=>0
 |x::r=>if x=0 then orL r else x
def u9(p q:Pn):Int:=or2 (jv p.au q.au) (or2 (jv p.he q.he) (Lib.compareBytes p.di q.di))
def j2(x y:Ct):Int:=or2 (n4 jv x.li y.li) (n4 u9 x.pi y.pi)
theorem qh{α:Type} [Inhabited α](f:α->α->Int){a b:List α}{i:Nat}(ha:i<a.length)(hb:i<b.length):
  n4 f (a.drop i) (b.drop i)=if f (el a i) (el b i)=0 then n4 f (a.drop (i+1)) (b.drop (i+1))else f (el a i) (el b i):=by
 have e1:a.drop i=el a i::a.drop (i+1):=by
  rw[List.drop_eq_getElem_cons ha];simp[el,bq,bf ha]
 have e2:b.drop i=el b i::b.drop (i+1):=by
  rw[List.drop_eq_getElem_cons hb];simp[el,bq,bf hb]
 rw[e1,e2];rfl
theorem u3{α:Type}(f:α->α->Int){a b:List α}{i:Nat}(hi:i=min a.length b.length):n4 f (a.drop i) (b.drop i)=jv a.length b.length:=by
 by_cases h1:a.length<b.length
 ·have:a.drop i=[]:=by rw[List.drop_eq_nil_iff];omega
  rw[this,jv,if_pos (by omega)]
  cases hd:b.drop i with
  |nil=>have:=List.drop_eq_nil_iff.1 hd;omega
  |cons y r=>rfl
 ·have hb:b.drop i=[]:=by rw[List.drop_eq_nil_iff];omega
  rw[hb,jv,if_neg (by omega)];by_cases h2:b.length<a.length
  ·rw[if_pos (by omega)]
   cases hd:a.drop i with
   |nil=>have:=List.drop_eq_nil_iff.1 hd;omega
   |cons y r=>rfl
  ·have:a.drop i=[]:=by rw[List.drop_eq_nil_iff];omega
   rw[this,if_neg (by omega)];rfl
theorem azp(a b:Nat):(if(b:Int)<(a:Int)then(b:Int)else(a:Int))=((min a b:Nat):Int):=by
 split<;>omega
theorem aph(a:Int):Den Tryz.prog 130 [.int .i64 a] [] (.bool false) [] []:=by
 refine aa Tryz.func130 rfl Tryz.call130 Tryz.ntmps130 Tryz.results130 (by simp) (by kernel_rfl) [] (exts:=[]) rfl rfl ?_;simp only[go_sem]
theorem ng(a b:Int):Den Tryz.prog 105 [.int .i64 a,.int .i64 b] [] (.int .i64 (jv a b)) [] []:=by
 refine aa Tryz.func105 rfl Tryz.call105 Tryz.ntmps105 Tryz.results105 (by simp) (by kernel_rfl) [] (exts:=[]) rfl rfl ?_;simp only[go_sem];refine call (aph a) [] ?_;simp only[go_sem];refine call (aph b) [] ?_;by_cases h1:a<b
 ·simp only[go_sem,h1];rw[jv,if_pos h1]
 ·by_cases h2:b<a
  ·simp only[go_sem,h1,h2];rw[jv,if_neg h1,if_pos h2]
  ·simp only[go_sem,h1,h2];rw[jv,if_neg h1,if_neg h2]
theorem mn(a b:Int):Den Tryz.prog 60 [.int .i64 a,.int .i64 b] [] (.int .i64 (jv a b)) [] []:=by
 refine aa Tryz.func60 rfl Tryz.call60 Tryz.ntmps60 Tryz.results60 (by simp) (by kernel_rfl) [] (exts:=[]) rfl rfl ?_;by_cases h1:a<b
 ·simp only[go_sem,h1];rw[jv,if_pos h1]
 ·by_cases h2:b<a
  ·simp only[go_sem,h1,h2];rw[jv,if_neg h1,if_pos h2]
  ·simp only[go_sem,h1,h2];rw[jv,if_neg h1,if_neg h2]
theorem axh{l:List Int}{i:Nat}(h:i<l.length):orL (l.drop i)=if el l i=0 then orL (l.drop (i+1))else el l i:=by
 have e1:l.drop i=el l i::l.drop (i+1):=by
  rw[List.drop_eq_getElem_cons h];simp[el,bq,bf h]
 rw[e1];rfl
theorem ap4(l:List Int)(hl:big l.length):Den Tryz.prog 103 [.vs (l.map i1)] [] (.int .i64 (orL l)) [] []:=by
 refine aa Tryz.func103 rfl Tryz.call103 Tryz.ntmps103 Tryz.results103 (by simp) (by kernel_rfl) [] (exts:=[]) rfl rfl ?_;simp only[go_sem];refine loop Tryz.mixed 0 (fun i:Nat=>[(3,.int .i64 0),(6,.vs (l.map i1)),(7,.int .i64 l.length),(8,.int .i64 i)]) (fun _=>[]) (fun i=>i<=l.length/\orL l=orL (l.drop i)) (fun i=>l.length - i) (by kernel_rfl) ?_ ?_ ?_
 ·exact⟨Nat.zero_le _,rfl⟩
 ·simp only[go_sem]
 ·rintro i ⟨hi,hc⟩;by_cases hlt:i<l.length
  ·have h1:(i:Int)<(l.length:Int):=by omega
   rw[axh hlt]at hc;by_cases hz:el l i=0
   ·rw[if_pos hz]at hc;simp only[go_sem,h1,hlt,hz];refine⟨i+1,⟨⟨by omega,hc⟩,by omega⟩,?_⟩;rw[ai]<;>omega
   ·rw[if_neg hz]at hc;simp only[go_sem,h1,hlt,hz];exact hc.symm
  ·have h1: ¬(i:Int)<(l.length:Int):=by omega
   have hd:l.drop i=[]:=by rw[List.drop_eq_nil_iff];omega
   rw[hd]at hc;simp only[go_sem,h1];exact hc.symm
theorem alz(a b:List Int)(ha:big a.length)(hb:big b.length):Den Tryz.prog 104 [.vs (a.map i1),.vs (b.map i1),.fn 105 []] [] (.int .i64 (n4 jv a b)) [] []:=by
 refine aa Tryz.func104 rfl Tryz.call104 Tryz.ntmps104 Tryz.results104 (by simp) (by kernel_rfl) [] (exts:=[]) rfl rfl ?_;have hm:=azp a.length b.length;generalize hM:min a.length b.length=M at*;simp only[Int.ofNat_lt]at hm;simp only[go_sem,hm];refine loop Tryz.mixed 0 (fun i:Nat=>[(0,.vs (a.map i1)),(1,.vs (b.map i1)),(2,.fn 105 []),(13,.int .i64 M),(14,.int .i64 i)]) (fun _=>[]) (fun i=>i<=M/\n4 jv a b=n4 jv (a.drop i) (b.drop i)) (fun i=>M - i) (by kernel_rfl) ?_ ?_ ?_
 ·exact⟨Nat.zero_le _,rfl⟩
 ·simp only[go_sem]
 ·rintro i ⟨hi,hc⟩;by_cases hlt:i<M
  ·have h1:(i:Int)<(M:Int):=by omega
   have ia:i<a.length:=by omega
   have ib:i<b.length:=by omega
   rw[qh jv ia ib]at hc;simp only[go_sem,h1,ia,ib];refine call (ng (el a i) (el b i)) [] ?_;by_cases hz:jv (el a i) (el b i)=0
   ·rw[if_pos hz]at hc;simp only[go_sem,hz];refine⟨ae (by kernel_rfl),i+1,⟨⟨by omega,hc⟩,by omega⟩,?_⟩;rw[ai]<;>omega
   ·rw[if_neg hz]at hc;simp only[go_sem,hz];exact⟨ae (by kernel_rfl),hc.symm⟩
  ·have h1: ¬(i:Int)<(M:Int):=by omega
   rw[u3 jv (by omega)]at hc;simp only[go_sem,h1];refine call (ng a.length b.length) [] ?_;simp only[go_sem];exact hc.symm
end Go.Proofs.Am
