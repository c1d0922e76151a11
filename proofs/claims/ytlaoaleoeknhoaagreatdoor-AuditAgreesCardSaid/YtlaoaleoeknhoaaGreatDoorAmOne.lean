/- AmOne. -/
import Derived.Below
import Derived.Orders
import Derived.Laws.OwnMore
import Derived.Laws.MakeOwn
import Derived.Deep.Draws
import Derived.Lib.PrintData
import Derived.Lib.DecodeN
import Derived.Lib.LaidTab
import Derived.Lib.ItoaNum
import Derived.Deep.MidRow
import Derived.Laws.StructEq
import Derived.Laws.Strings
import Derived.Laws.Slices
import Derived.Laws.BytesArg
import Derived.Laws.IdiomStrings
import Derived.ChangeKeysEq
import Derived.Lib.AppendStr
set_option linter.unusedSimpArgs false
set_option linter.unusedVariables false
namespace Go.Proofs.Am
open Go Go.RowKit
abbrev Aa{G:Prop}(h:G:=by omega):G:=h
abbrev Ab{G:Prop}(h:G:=by rw[ah]<;>omega):G:=h
abbrev Ad{G:Prop}(h:G:=by simp):G:=h
abbrev Ae{G:Prop}(h:G:=by kernel_rfl):G:=h
abbrev Af{G:Prop}(h:G:=by simp only[big];omega):G:=h
abbrev Ag{G:Prop}(h:G:=by simp;omega):G:=h
abbrev Ah{G:Prop}(h:G:=by simp only;omega):G:=h
abbrev Ai{G:Prop}(h:G:=by rw[m9,b0b (p:=1<=p.ta.length/\p.ta.length<=8/\1<=p.lv/\p.lv<=3) (by omega)];simp):G:=h
abbrev Aj{G:Prop}(h:G:=by show L.length - (i+1)<L.length - i;omega):G:=h
abbrev Ak{G:Prop}(h:G:=by rw[b0i];omega):G:=h
abbrev Al{G:Prop}(h:G:=by rfl):G:=h
abbrev An{G:Prop}(h:G:=by simpa using h):G:=h
abbrev Ao{G:Prop}(h:G:=by simp[g,Op.operands]):G:=h
abbrev Ap{G:Prop}(h:G:=by simp[big]):G:=h
abbrev Aq{G:Prop}(h:G:=by simpa using d):G:=h
abbrev Ar{G:Prop}(h:G:=by decide):G:=h
abbrev As{G:Prop}(h:G:=by show i+1<=L.length;omega):G:=h
abbrev At{G:Prop}(h:G:=by simp only[small];omega):G:=h
abbrev Au{G:Prop}(h:G:=by simpa using c):G:=h
abbrev Av{G:Prop}(h:G:=by simp only[Nat.reducePow];omega):G:=h
abbrev Aw{G:Prop}(h:G:=by unfold upd;split<;>simp_all):G:=h
abbrev Ax{G:Prop}(h:G:=by rw[IntKind.wrap_u64];omega):G:=h
abbrev Ay{G:Prop}(h:G:=by simpa using hk):G:=h
abbrev Az{G:Prop}(h:G:=by rintro _ _ w rfl rfl;simp[binOp,Op.stringOp,b3p,bp5]):G:=h
abbrev A0{G:Prop}(h:G:=by simpa using b):G:=h
abbrev A2{G:Prop}(h:G:=by cases h with|pure h=>cases h;rfl):G:=h
abbrev A4{G:Prop}(h:G:=by rw[a]):G:=h
abbrev A5{G:Prop}(h:G:=by simpa using e):G:=h
abbrev A6{G:Prop}(h:G:=by simpa using a):G:=h
abbrev A7{G:Prop}(h:G:=by simp[ho,Op.operands,Call.operands]):G:=h
abbrev A8{G:Prop}(h:G:=by simp[N,Op.operands,Call.operands]):G:=h
abbrev A9{G:Prop}(h:G:=by have:=h.2;omega):G:=h
abbrev Ba{G:Prop}(h:G:=by rw[b2l (by omega),ah (by omega) (by omega)];rfl):G:=h
abbrev Bb{G:Prop}(h:G:=by and_intros<;>kernel_rfl):G:=h
abbrev Bc{G:Prop}(h:G:=by unfold dd;rw[b0b (by omega)];rfl):G:=h
abbrev Bd{G:Prop}(h:G:=by simp[kk];omega):G:=h
abbrev Be{G:Prop}(h:G:=by simp[f]):G:=h
abbrev Bf{G:Prop}(h:G:=by simp[b]):G:=h
abbrev Bg{G:Prop}(h:G:=by simp[f,Op.operands]):G:=h
abbrev Bh{G:Prop}(h:G:=by rw[b0i,b1b,b0i];omega):G:=h
abbrev Bi{G:Prop}(h:G:=by simp[d]):G:=h
abbrev Bj{G:Prop}(h:G:=by simp[app]):G:=h
abbrev Bk{G:Prop}(h:G:=by show 64 - (k+1)<64 - k;omega):G:=h
abbrev Bl{G:Prop}(h:G:=by simp only[b0a,b1j];omega):G:=h
abbrev Bm{G:Prop}(h:G:=by rw[e]):G:=h
abbrev Bn{G:Prop}(h:G:=by rintro⟨I,B,sz,l,J,c⟩;exact⟨I,B,sz,l,N m _ d J,c⟩):G:=h
abbrev Bo{G:Prop}(h:G:=by simp[j,Op.operands]):G:=h
abbrev Bp{G:Prop}(h:G:=by simp[W,Op.operands]):G:=h
abbrev Bq{G:Prop}(h:G:=by rw[hsu]):G:=h
abbrev Br{G:Prop}(h:G:=by rintro⟨E,B,K,l,H,c⟩;exact⟨E,B,K,l,f n _ q H,c⟩):G:=h
abbrev Bs{G:Prop}(h:G:=by simpa using Array.mem_of_getElem? (by simpa using hp)):G:=h
abbrev Bt{G:Prop}(h:G:=by simp only[small,b0a,a,ax];omega):G:=h
abbrev Bu{G:Prop}(h:G:=by rw[ah (by omega) (by omega),IntKind.wrap_u64];omega):G:=h
abbrev Bv{G:Prop}(h:G:=by simpa using h1):G:=h
abbrev Bw{G:Prop}(h:G:=by rw[bd,bq (by omega)];rfl):G:=h
abbrev Bx{G:Prop}(h:G:=by simp[hx]):G:=h
abbrev By{G:Prop}(h:G:=by simp[hn]):G:=h
abbrev Bz{G:Prop}(h:G:=by simp[cz]):G:=h
abbrev B0{G:Prop}(h:G:=by simp at hl):G:=h
abbrev B4{G:Prop}(h:G:=by rw[m9,b0h (p:=1<=p.ta.length/\p.ta.length<=8/\1<=p.lv/\p.lv<=3) (by omega),b0h (by omega),a2];rfl):G:=h
abbrev B5{G:Prop}(h:G:=by decide+kernel):G:=h
abbrev B6{G:Prop}(h:G:=by simp only[small,b0a,a];omega):G:=h
abbrev B7{G:Prop}(h:G:=by rw[inB,inB,b0b (by omega),b0b (by omega)];rfl):G:=h
abbrev B8{G:Prop}(h:G:=by simp[noV]):G:=h
abbrev B9{G:Prop}(h:G:=by simp[d,Op.operands]):G:=h
abbrev Ca{G:Prop}(h:G:=by simp[D,Op.operands]):G:=h
abbrev Cb{G:Prop}(h:G:=by rw[inB,b0b (by omega)];rfl):G:=h
abbrev Cc{G:Prop}(h:G:=by show l.length - (k+1)<l.length - k;omega):G:=h
abbrev Cd{G:Prop}(h:G:=by show a.length - (i+1)<a.length - i;omega):G:=h
abbrev Ce{G:Prop}(h:G:=by show S.length - (j+1)<S.length - j;omega):G:=h
abbrev Cf{G:Prop}(h:G:=by rw[r,if_neg (λh=>by rw[hf]at h;cases h.2.2),if_neg (λh=>by rw[hd]at h;cases h.2)]):G:=h
abbrev Cg{G:Prop}(h:G:=by simpa using hl):G:=h
abbrev Ch{G:Prop}(h:G:=by simp only[b0a,b0q,b0r];omega):G:=h
abbrev Ci{G:Prop}(h:G:=by show i - 1<i;omega):G:=h
abbrev Cj{G:Prop}(h:G:=by rcases d with d|d<;>simp[d,Op.operands]):G:=h
abbrev Ck{G:Prop}(h:G:=by have:=E12.out.1;simp only[el,bd,bq (show i<x.li.length by omega),b1o];exact b1g _):G:=h
abbrev Cl{G:Prop}(h:G:=by simp[c]):G:=h
abbrev Cm{G:Prop}(h:G:=by rw[a,b0d];rfl):G:=h
abbrev Co{G:Prop}(h:G:=by rw[a,b0a];rfl):G:=h
abbrev Cp{G:Prop}(h:G:=by simpa using h2):G:=h
abbrev Cq{G:Prop}(h:G:=by simpa using hq):G:=h
abbrev Cr{G:Prop}(h:G:=by simpa [Lib.keeps] using hk):G:=h
abbrev Cu{G:Prop}(h:G:=by simp[be8];omega):G:=h
abbrev Cw{G:Prop}(h:G:=by simp only[b0a,ax];omega):G:=h
abbrev Cx{G:Prop}(h:G:=by simp only[bkF,b0a,jw,b0q,b0r];omega):G:=h
abbrev Cy{G:Prop}(h:G:=by simp only[small,b0a,ax,d5,b];omega):G:=h
abbrev Cz{G:Prop}(h:G:=by show k+1<=64;omega):G:=h
abbrev C0{G:Prop}(h:G:=by apply b55;simpa using ht):G:=h
abbrev C1{G:Prop}(h:G:=by simp[h,Op.operands,Call.operands]):G:=h
abbrev C2{G:Prop}(h:G:=by simp[el,bd,show i<l.length by omega]):G:=h
abbrev C3{G:Prop}(h:G:=by simp[L,Op.operands,Call.operands]):G:=h
abbrev C4{G:Prop}(h:G:=by simp only[maxLen];omega):G:=h
abbrev C5{G:Prop}(h:G:=by cases b with|nil=>rfl|cons c b=>exact absurd (p2 c (by simp)) (by simp)):G:=h
abbrev C6{G:Prop}(h:G:=by simp[ho,Op.operands]):G:=h
abbrev C7{G:Prop}(h:G:=by simp only[b0a,jw,b0q,b0r];omega):G:=h
abbrev C8{G:Prop}(h:G:=by rw[r,if_neg (λh=>A h.2.1),if_neg (λh=>by rw[hd]at h;cases h.2)]):G:=h
abbrev C9{G:Prop}(h:G:=by rw[b37 (by omega)];rfl):G:=h
abbrev Da{G:Prop}(h:G:=by have:=b1k (xs:=ds) (i:=i) (j:=0);rw[h4]at this;simpa using this.symm):G:=h
abbrev Db{G:Prop}(h:G:=by have:=b1k (xs:=cs) (i:=i) (j:=0);rw[h3]at this;simpa using this.symm):G:=h
abbrev Dc{G:Prop}(h:G:=by simpa using hc):G:=h
abbrev Dd{G:Prop}(h:G:=by simp[r,Op.operands]):G:=h
abbrev De{G:Prop}(h:G:=by simp[p,Op.operands]):G:=h
abbrev Df{G:Prop}(h:G:=by simp[noC,qg,big]):G:=h
abbrev Dg{G:Prop}(h:G:=by simp[hm]):G:=h
abbrev Dh{G:Prop}(h:G:=by simp[e,Op.operands]):G:=h
abbrev Di{G:Prop}(h:G:=by simp[A,Op.operands]):G:=h
abbrev Dj{G:Prop}(h:G:=by rw[r,if_pos ⟨o,A,hf⟩,if_neg (λh=>by rw[hd]at h;cases h.2)]):G:=h
abbrev Dk{G:Prop}(h:G:=by rw[r,if_neg (λh=>by rw[hf]at h;cases h.2.2),if_pos ⟨o,hd⟩]):G:=h
abbrev Dl{G:Prop}(h:G:=by have:=d.t;simp only[big];omega):G:=h
abbrev Dm{G:Prop}(h:G:=by have:=d.s;simp only[big];omega):G:=h
abbrev Dn{G:Prop}(h:G:=by have:=d.g;simp only[big];omega):G:=h
abbrev Do{G:Prop}(h:G:=by have:=b.t;simp only[big];omega):G:=h
abbrev Dp{G:Prop}(h:G:=by have:=b.s;simp only[big];omega):G:=h
abbrev Dq{G:Prop}(h:G:=by have:=b.g;simp only[big];omega):G:=h
abbrev Dr{G:Prop}(h:G:=by unfold Addr.add;split<;>simp_all):G:=h
abbrev Ds{G:Prop}(h:G:=by simp[i1]):G:=h
abbrev Dt{G:Prop}(h:G:=by show 64 - (i+1)<64 - i;omega):G:=h
abbrev Du{G:Prop}(h:G:=by simp[h1]):G:=h
abbrev Dv{G:Prop}(h:G:=by rw[hs n (by simp),I]):G:=h
abbrev Dw{G:Prop}(h:G:=by simp[a]):G:=h
abbrev Dx{G:Prop}(h:G:=by simpa [blk] using f):G:=h
abbrev Dy{G:Prop}(h:G:=by simp only[pu];rw[if_neg (by simp[h1]),if_neg (by simp[h2])]):G:=h
abbrev Dz{G:Prop}(h:G:=by simp only[b0a,jw,ax];omega):G:=h
abbrev D0{G:Prop}(h:G:=by rw[b2r];rfl):G:=h
abbrev D1{G:Prop}(h:G:=by cases h):G:=h
abbrev D3{G:Prop}(h:G:=by rw[a];simp):G:=h
abbrev D4{G:Prop}(h:G:=by simp[e]):G:=h
abbrev D5{G:Prop}(h:G:=by simp[a2]):G:=h
abbrev D6{G:Prop}(h:G:=by show k+1<=l.length;omega):G:=h
abbrev D7{G:Prop}(h:G:=by rw[b0n,b1b];omega):G:=h
abbrev D8{G:Prop}(h:G:=by rw[G];exact k3 hk):G:=h
abbrev D9{G:Prop}(h:G:=by rw[my];exact D):G:=h
abbrev Ea{G:Prop}(h:G:=by rintro _ _ w rfl rfl;simp[binOp,Op.stringOp,b3p]):G:=h
abbrev Eb{G:Prop}(h:G:=by simp[ps]):G:=h
abbrev Ec{G:Prop}(h:G:=by show g.li.length - (i+1)<g.li.length - i;omega):G:=h
abbrev Ee{G:Prop}(h:G:=by rw[b0a];exact k1):G:=h
abbrev Ef{G:Prop}(h:G:=by simpa using hs.length):G:=h
abbrev Eg{G:Prop}(h:G:=by show j+1<=S.length;omega):G:=h
abbrev Eh{G:Prop}(h:G:=by show i+1<=a.length;omega):G:=h
abbrev Ei{G:Prop}(h:G:=by rw[r,if_neg (λh=>A h.2.1),if_pos ⟨o,hd⟩]):G:=h
abbrev Ej{G:Prop}(h:G:=by rw[<-c2];exact(dm.1 G).1):G:=h
abbrev Ek{G:Prop}(h:G:=by simp only[pu];rw[if_neg (by simp[h1]),if_pos h2]):G:=h
abbrev El{G:Prop}(h:G:=by simpa using B):G:=h
abbrev Em{G:Prop}(h:G:=by simp only[b15];exact i2):G:=h
abbrev En{G:Prop}(h:G:=by show big g.gone.length;simp only[big];omega):G:=h
abbrev Eo{G:Prop}(h:G:=by rw[r,if_pos ⟨o,A,hf⟩,if_pos ⟨o,hd⟩]):G:=h
abbrev Ep{G:Prop}(h:G:=by rw[jo];exact h5):G:=h
abbrev Er{G:Prop}(h:G:=by rw[e6];exact h0):G:=h
abbrev Es{G:Prop}(h:G:=by rw[b0d];rfl):G:=h
abbrev Et{G:Prop}(h:G:=by rw[<-bf7 (a:=t45 0) (b:=t45 1) rfl rfl];exact h):G:=h
abbrev Eu{G:Prop}(h:G:=by simp[q,Op.operands]):G:=h
abbrev Ev{G:Prop}(h:G:=by simp[h]):G:=h
abbrev Ew{G:Prop}(h:G:=by simp[g]):G:=h
abbrev Ex{G:Prop}(h:G:=by rw[r,if_neg λh=>o h.1,if_neg λh=>o h.1]):G:=h
abbrev Ey{G:Prop}(h:G:=by have:=(ih g a).2;omega):G:=h
abbrev Ez{G:Prop}(h:G:=by rw[m5];exact M):G:=h
abbrev E0{G:Prop}(h:G:=by cases d<;>first|rfl|exact absurd rfl (hd _)):G:=h
abbrev E1{G:Prop}(h:G:=by simp[el,bd,b]):G:=h
abbrev E2{G:Prop}(h:G:=by rw[b30];omega):G:=h
abbrev E3{G:Prop}(h:G:=by simp[el,bd,b2o (by omega:nu.length<=i)]):G:=h
abbrev E4{G:Prop}(h:G:=by show i+1<=64;omega):G:=h
abbrev E5{G:Prop}(h:G:=by rwa [show i0+(i+1)=i0+1+i by omega]):G:=h
abbrev E6{G:Prop}(h:G:=by rw[b0i,b1b];omega):G:=h
abbrev E7{G:Prop}(h:G:=by simp only[small,b0a,b,d5,ax];omega):G:=h
abbrev E8{G:Prop}(h:G:=by simp only[cF];rw[b14 (by omega),b14 h]):G:=h
abbrev E9{G:Prop}(h:G:=by simp only[b0,b0a,jw,b0q,b0r];omega):G:=h
abbrev Fa{G:Prop}(h:G:=by rcases jt u.di v.di with h|h|h<;>omega):G:=h
abbrev Fb{G:Prop}(h:G:=by simpa using hjq):G:=h
abbrev Fc{G:Prop}(h:G:=by simp[f,Op.operands,Call.operands]):G:=h
abbrev Fd{G:Prop}(h:G:=by simp[aay];omega):G:=h
abbrev Fe{G:Prop}(h:G:=by simp[X,Op.operands,Call.operands]):G:=h
abbrev Ff{G:Prop}(h:G:=by simp[W,Op.operands,Call.operands]):G:=h
abbrev Fg{G:Prop}(h:G:=by simp[R,Op.operands,Call.operands]):G:=h
abbrev Fh{G:Prop}(h:G:=by simp only[small,b0a,g,d5,f];omega):G:=h
abbrev Fi{G:Prop}(h:G:=by simp only[ix,b0l]at hc;exact hc.2):G:=h
abbrev Fj{G:Prop}(h:G:=by simp only[ix,b0l]at hc;exact hc.1):G:=h
abbrev Fk{G:Prop}(h:G:=by show List.length _<=i+1;rw[fin];omega):G:=h
abbrev Fl{G:Prop}(h:G:=by rw[e];rfl):G:=h
abbrev Fm{G:Prop}(h:G:=by rw[<-a];simp only[aj,e1,e,e4,c,b];rfl):G:=h
abbrev Fo{G:Prop}(h:G:=by simpa [avr] using (heap_set G).1):G:=h
abbrev Fp{G:Prop}(h:G:=by rw[ak _ _ f];exact Box.keep_refl _ _):G:=h
abbrev Fq{G:Prop}(h:G:=by rw[<-g9];exact b0j.2 (.inr (G m hm))):G:=h
abbrev Fr{G:Prop}(h:G:=by have:=c.len;simp only[big];omega):G:=h
abbrev Fs{G:Prop}(h:G:=by have:=(dm.1 hq).1;simpa using this):G:=h
abbrev Ft{G:Prop}(h:G:=by unfold dd;rw[a4,b0h (by omega)];rfl):G:=h
abbrev Fu{G:Prop}(h:G:=by simpa using hv):G:=h
abbrev Fv{G:Prop}(h:G:=by simpa using hr):G:=h
abbrev Fw{G:Prop}(h:G:=by show w.length<=M.length+(j+1);omega):G:=h
abbrev Fx{G:Prop}(h:G:=by show M.length+64*(i - 1)<=400;omega):G:=h
abbrev Fy{G:Prop}(h:G:=by rw[show j+1+k=j+(k+1) by omega];rfl):G:=h
abbrev Fz{G:Prop}(h:G:=by rw[h.2.1];simp):G:=h
abbrev F0{G:Prop}(h:G:=by rw[b0s,hp];rfl):G:=h
abbrev F1{G:Prop}(h:G:=by rw[F];exact J D W):G:=h
abbrev F2{G:Prop}(h:G:=by simp[a1]):G:=h
abbrev F3{G:Prop}(h:G:=by simpa using f):G:=h
abbrev F4{G:Prop}(h:G:=by simpa using E):G:=h
abbrev F5{G:Prop}(h:G:=by simp only[small,b0a,ax];omega):G:=h
abbrev F6{G:Prop}(h:G:=by simp at h;omega):G:=h
abbrev F7{G:Prop}(h:G:=by rw[r9];exact k.1):G:=h
abbrev F8{G:Prop}(h:G:=by rw[b0s,bq d];simp[el,bd,bq d]):G:=h
abbrev F9{G:Prop}(h:G:=by have:=(dm.1 d).1;rwa [b15]at this):G:=h
abbrev Ga{G:Prop}(h:G:=by unfold rf;rw[if_neg h0,if_pos a]):G:=h
abbrev Gb{G:Prop}(h:G:=by unfold rf;rw[if_neg h0,if_neg a]):G:=h
abbrev Gc{G:Prop}(h:G:=by simp[eh,a]):G:=h
abbrev Gd{G:Prop}(h:G:=by simp at hx):G:=h
abbrev Ge{G:Prop}(h:G:=by obtain⟨n,_,rfl⟩:=b0z.1 k;rfl):G:=h
abbrev LN:=List Nat
abbrev LB:=List UInt8
abbrev LI:=List Int
abbrev b0a:=@List.length_append
abbrev b0b:=@decide_eq_false
abbrev b0c:=@Option.some.injEq
abbrev b0d:=@List.map_append
abbrev b0e:=@List.mem_of_getElem?
abbrev b0f:=@Nat.le_refl
abbrev b0g:=@of_decide_eq_true
abbrev b0h:=@decide_eq_true
abbrev b0i:=@List.length_take
abbrev b0j:=@List.mem_append
abbrev b0k:=@Nat.zero_le
abbrev b0l:=@Bool.and_eq_true
abbrev b0m:=@List.append_assoc
abbrev b0n:=@List.take_length
abbrev b0o:=@List.map_nil
abbrev b0p:=@List.mem_cons
abbrev b0q:=@List.length_cons
abbrev b0r:=@List.length_nil
abbrev b0s:=@List.getElem?_map
abbrev b0t:=@Prod.mk.injEq
abbrev b0u:=@List.eq_nil_of_length_eq_zero
abbrev b0v:=@Sem.run_bind
abbrev b0w:=@Result.andThen_ok
abbrev b0x:=@List.length_map
abbrev b0y:=@List.getElem?_append_right
abbrev b0z:=@List.mem_map
abbrev b00:=@List.append_nil
abbrev b01:=@decide_eq_true_eq
abbrev b02:=@Option.map_some
abbrev b03:=@Array.getElem?_eq_some_iff
abbrev b04:=@List.getElem?_take
abbrev b05:=@List.length_filter_le
abbrev b06:=@List.all_eq_true
abbrev b07:=@List.map_cons
abbrev b08:=@Nat.mul_le_mul_right
abbrev b09:=@List.getElem?_append_left
abbrev b1a:=@of_decide_eq_false
abbrev b1b:=@List.length_drop
abbrev b1c:=@Array.getD_eq_getD_getElem?
abbrev b1d:=@decide_eq_false_iff_not
abbrev b1e:=@List.mem_of_mem_take
abbrev b1f:=@List.mem_iff_getElem
abbrev b1g:=@List.getElem_mem
abbrev b1h:=@List.mem_singleton
abbrev b1i:=@List.pairwise_iff_getElem
abbrev b1j:=@List.length_singleton
abbrev b1k:=@List.getElem?_drop
abbrev b1l:=@Nat.le_trans
abbrev b1m:=@Nat.lt_succ_iff_lt_or_eq
abbrev b1n:=@List.getElem?_cons_zero
abbrev b1o:=@Option.getD_some
abbrev b1p:=@Oper.upon_value
abbrev b1q:=@List.getElem?_append
abbrev b1r:=@Sem.run_pure
abbrev b1s:=@List.cons_append
abbrev b1t:=@List.mem_of_mem_drop
abbrev b1u:=@List.nil_append
abbrev b1v:=@Bool.or_eq_true
abbrev b1w:=@Nat.zero_add
abbrev b1x:=@and_congr_right
abbrev b1y:=@Option.isSome_iff_exists
abbrev b1z:=@Nat.add_sub_cancel
abbrev b10:=@List.pairwise_cons
abbrev b11:=@Array.getElem?_eq_getElem
abbrev b12:=@Bool.false_eq_true
abbrev b13:=@Nat.add_zero
abbrev b14:=@List.take_of_length_le
abbrev b15:=@List.length_set
abbrev b16:=@List.mem_filter
abbrev b17:=@List.flatMap_nil
abbrev b18:=@List.eq_of_mem_replicate
abbrev b19:=@Int.toNat_natCast
abbrev b2a:=@Nat.add_mul
abbrev b2b:=@Array.mem_of_getElem?
abbrev b2c:=@Bool.not_eq_true'
abbrev b2d:=@List.take_zero
abbrev b2e:=@List.mergeSort_perm
abbrev b2f:=@List.mem_or_eq_of_mem_set
abbrev b2g:=@List.drop_eq_getElem_cons
abbrev b2h:=@List.size_toArray
abbrev b2i:=@Nat.eq_zero_or_pos
abbrev b2j:=@List.foldl_cons
abbrev b2k:=@List.mem_range
abbrev b2l:=@Int.tdiv_eq_ediv_of_nonneg
abbrev b2m:=@List.flatMap_cons
abbrev b2n:=@List.any_eq_true
abbrev b2o:=@List.getElem?_eq_none
abbrev b2p:=@List.filter_append
abbrev b2q:=@List.length_pos_iff
abbrev b2r:=@List.map_set
abbrev b2s:=@and_assoc
abbrev b2t:=@List.filter_nil
abbrev b2u:=@List.append_eq
abbrev b2v:=@List.mem_iff_getElem?
abbrev b2w:=@List.pairwise_mergeSort
abbrev b2x:=@List.getElem?_set
abbrev b2y:=@World.cell?_of_block
abbrev b2z:=@List.getElem?_range
abbrev b20:=@Nat.lt_succ_self
abbrev b21:=@List.getElem?_cons_succ
abbrev b22:=@List.foldl_append
abbrev b23:=@Array.getElem?_append_left
abbrev b24:=@Nat.lt_of_lt_of_le
abbrev b25:=@if_false
abbrev b26:=@List.findIdx?_eq_none_iff
abbrev b27:=@List.filter_cons
abbrev b28:=@Array.length_toList
abbrev b29:=@List.flatMap_append
abbrev b3a:=@Nat.mul_comm
abbrev b3b:=@List.length_mergeSort
abbrev b3c:=@List.length_range
abbrev b3d:=@Bool.false_and
abbrev b3e:=@Nat.le_mul_of_pos_right
abbrev b3f:=@Nat.mul_one
abbrev b3g:=@Int.le_refl
abbrev b3h:=@Nat.add_sub_cancel_left
abbrev b3i:=@List.nodup_cons
abbrev b3j:=@List.map_take
abbrev b3k:=@List.findIdx?_eq_some_iff_getElem
abbrev b3l:=@decide_eq_true_iff
abbrev b3m:=@getElem!_pos
abbrev b3n:=@List.exists_cons_of_ne_nil
abbrev b3o:=@MapKept.run_getObj_map
abbrev b3p:=@ByteArray.toList_eq
abbrev b3q:=@Nat.sub_lt_sub_left
abbrev b3r:=@Bool.true_and
abbrev b3s:=@Bool.eq_iff_iff
abbrev b3t:=@List.getElem?_toArray
abbrev b3u:=@List.take_append_drop
abbrev b3v:=@Option.some.inj
abbrev b3w:=@Array.getElem?_modify
abbrev b3x:=@Array.getElem?_toList
abbrev b3y:=@Nat.mod_eq_of_lt
abbrev b3z:=@List.mem_cons_of_mem
abbrev b30:=@List.drop_eq_nil_iff
abbrev b31:=@Array.replicate_succ
abbrev b32:=@Array.replicate_zero
abbrev b33:=@Value.slice.injEq
abbrev b34:=@List.range_succ
abbrev b35:=@List.append_toArray
abbrev b36:=@Array.getElem?_eq_none
abbrev b37:=@Int.tmod_eq_emod_of_nonneg
abbrev b38:=@List.ext_getElem
abbrev b39:=@MapKept.heap_alloc
abbrev b4a:=@List.map_replicate
abbrev b4b:=@UInt8.not_lt
abbrev b4c:=@List.mem_append_left
abbrev b4d:=@List.pairwise_append
abbrev b4e:=@Array.getElem?_setIfInBounds_ne
abbrev b4f:=@List.pairwise_map
abbrev b4g:=@List.take_add_one
abbrev b4h:=@List.push_toArray
abbrev b4i:=@if_true
abbrev b4j:=@Nat.exists_eq_add_of_le
abbrev b4k:=@List.getElem_of_mem
abbrev b4l:=@List.prefix_iff_eq_take
abbrev b4m:=@List.drop_drop
abbrev b4n:=@Option.map_eq_some_iff
abbrev b4o:=@List.length_pos_of_mem
abbrev b4p:=@List.takeWhile_sublist
abbrev b4q:=@Array.append_assoc
abbrev b4r:=@Nat.lt_or_gt_of_ne
abbrev b4s:=@eq_true
abbrev b4t:=@List.takeWhile_prefix
abbrev b4u:=@Nat.add_assoc
abbrev b4v:=@Below.refl
abbrev b4w:=@UInt8.le_antisymm
abbrev b4x:=@List.getElem_take
abbrev b4y:=@Int.add_mul_emod_self_left
abbrev b4z:=@Int.fdiv_eq_ediv_of_nonneg
abbrev b40:=@BitVec.ofInt_natCast
abbrev b41:=@Bool.and_eq_true_iff
abbrev b42:=@and_false
abbrev b43:=@Bool.and_false
abbrev b44:=@List.mem_take_iff_getElem
abbrev b45:=@List.getElem_map
abbrev b46:=@List.filterMap_cons
abbrev b47:=@List.Perm.eq_of_pairwise
abbrev b48:=@List.length_erase_of_mem
abbrev b49:=@List.find?_range_eq_some
abbrev b5a:=@Nat.div_add_mod
abbrev b5b:=@List.set_eq_take_append_cons_drop
abbrev b5c:=@BitVec.toNat_ofNat
abbrev b5d:=@Bool.and_self
abbrev b5e:=@List.getElem?_replicate
abbrev b5f:=@List.length_eq_zero_iff
abbrev b5g:=@Bool.false_or
abbrev b5h:=@List.all_takeWhile
abbrev b5i:=@List.mem_replicate
abbrev b5j:=@List.drop_eq_nil_of_le
abbrev b5k:=@List.pairwise_lt_range
abbrev b5l:=@Nat.sub_mul
abbrev b5m:=@List.mem_range'_1
abbrev b5n:=@List.any_eq_false
abbrev b5o:=@List.take_left
abbrev b5p:=@Oper.upon_skip
abbrev b5q:=@List.foldl_nil
abbrev b5r:=@Array.eq_empty_of_size_eq_zero
abbrev b5s:=@Nat.lt_trans
abbrev b5t:=@List.mem_append_right
abbrev b5u:=@Nat.lt_or_ge
abbrev b5v:=@List.eq_nil_iff_forall_not_mem
abbrev b5w:=@List.zipIdx_cons
abbrev b5x:=@List.mem_toArray
abbrev b5y:=@List.drop_append_of_le_length
abbrev b5z:=@decide_eq_decide
abbrev b50:=@List.take_append_of_le_length
abbrev b51:=@List.mem_flatMap
abbrev b52:=@Nat.div_lt_of_lt_mul
abbrev b53:=@List.mem_erase_of_ne
abbrev b54:=@Addr.mk.injEq
abbrev b55:=@Array.ext'
abbrev b56:=@Array.toList_append
abbrev b57:=@Nat.mul_add_mod
abbrev b58:=@List.range_zero
abbrev b6a:=@List.filter_eq_self
abbrev b6b:=@List.perm_ext_iff_of_nodup
abbrev b6c:=@Array.getElem?_map
abbrev b6d:=@List.getLast?_cons
abbrev b6e:=@decide_false
abbrev b6f:=@List.set_cons_succ
abbrev b6g:=@Nat.add_comm
abbrev b6h:=@List.getElem_range
abbrev b6i:=@Option.toList_some
abbrev b6j:=@List.drop_take
abbrev b6k:=@List.exists_mem_of_ne_nil
abbrev b6l:=@Array.size_append
abbrev b6m:=@Nat.mod_lt
abbrev b6n:=@List.ext_getElem?
abbrev b6o:=@Nat.or_lt_two_pow
abbrev b6p:=@List.nodup_append
abbrev b6q:=@DataW.trod_struct
abbrev b6r:=@List.find?_range_eq_none
abbrev b6s:=@Bool.and_true
abbrev b6t:=@List.map_drop
abbrev b6u:=@Nat.mul_div_cancel_left
abbrev b6v:=@Option.bind_eq_some_iff
abbrev b6w:=@Nat.min_le_right
abbrev b6x:=@IntKind.wrap_i64
abbrev b6y:=@List.not_mem_nil
abbrev b6z:=@Bool.not_eq_true
abbrev b60:=@ByteArray.data_extract
abbrev b61:=@MapKept.run_setObj_map
abbrev b62:=@List.drop_of_length_le
abbrev b63:=@List.length_eq_one_iff
abbrev b64:=@Bool.and_eq_false_iff
abbrev b65:=@Option.map_none
abbrev b66:=@List.map_map
abbrev b67:=@Nat.zero_mul
abbrev b68:=@List.length_replicate
abbrev b69:=@Nat.div_lt_iff_lt_mul
abbrev b7a:=@Nat.sub_self
abbrev b7b:=@List.countP_le_length
abbrev b7c:=@Int.mul_tdiv_add_tmod
abbrev b7d:=@IntKind.wrap_u8
abbrev b7e:=@List.singleton_append
abbrev b7f:=@UInt8.lt_irrefl
abbrev b7g:=@List.set_append
abbrev b7h:=@List.sum_append
abbrev b7i:=@List.pairwise_flatMap
abbrev b7j:=@List.range_eq_range'
abbrev b7k:=@Array.getElem?_range
abbrev b7l:=@Array.mem_toList_iff
abbrev b7m:=@List.getElem?_range'
abbrev b7n:=@List.Pairwise.filter
abbrev b7o:=@Bool.or_eq_false_iff
abbrev b7p:=@Nat.mul_le_mul
abbrev b7q:=@List.replicate_succ
abbrev b7r:=@Array.getElem?_push
abbrev b7s:=@Array.toList_filter
abbrev b7t:=@Nat.one_mul
abbrev b7u:=@List.map_congr_left
abbrev b7v:=@List.takeWhile_cons
abbrev b7w:=@List.drop_replicate
abbrev b7x:=@and_true
abbrev b7y:=@Nat.lt_irrefl
abbrev b7z:=@Array.foldl_toList
abbrev b70:=@Int.lt_tmod_of_pos
abbrev b71:=@Int.tmod_lt_of_pos
abbrev b72:=@Int.emod_lt_of_pos
abbrev b73:=@List.map_inj_right
abbrev b74:=@List.set_cons_zero
abbrev b75:=@Array.extract_size
abbrev b76:=@List.filter_filter
abbrev b78:=@Int.emod_eq_of_lt
abbrev b79:=@Classical.not_not
abbrev b8a:=@World.cells?_some
abbrev b8b:=@Nat.lt_trichotomy
abbrev b8c:=@List.filter_congr
abbrev b8d:=@Int.add_zero
abbrev b8e:=@true_and
abbrev b8f:=@decide_true
abbrev b8g:=@false_or
theorem cl_{P:Program}{k:FuncId}{fn:Func}{c:Code}(hf:P.funcs[k]? =some fn)(hb:fn.body=some c)(hn:(fn.name== "runtime.NumGoroutine")=false)(xs:Array Value)(w:World):(callFunc k xs).run P w= .ok (.enter k xs) w:=by simp at hn;simp[callFunc,go_sem,hf,hb,hn]
theorem bd{α:Type _}{l:List α}{i:Nat}{a:α}:l.getD i a=l[i]?.getD a:=List.getD_eq_getElem?_getD
theorem bq{α:Type _}{l:List α}{i:Nat}(h:i<l.length):l[i]? =some l[i]:=List.getElem?_eq_getElem h
theorem dm{α:Type _}{l:List α}{i:Nat}{a:α}:l[i]? =some a↔∃h:i<l.length,l[i]=a:=List.getElem?_eq_some_iff
inductive PV where
 |undef
 |bool (b:Bool)
 |int (k:IntKind) (n:Int)
 |str (l:LB)
 |nils
 |vs (xs:List (List PV))
 |os (n k:Nat)
 |agg (cs:List PV)
 |tup (us:List PV)
 |ptr (n off:Nat)
 |nilp
 |el (cs:List PV)
 |oel (n k i off:Nat)
 |osl (n k i:Nat)
 |vx (xs:List (List PV))
 |fn (f:FuncId) (caps:List PV)
 |nilf
 |ifc (t:TypeId) (u:PV)
 |nili
 |nilm
 |sn (b:Bool)
 |mh (n:Nat)
 |oq (n k:Nat)
 |oqe (n k i sz off:Nat)
 |ago (cs:List PV)
 |oss (n k i m:Nat)
 deriving Inhabited
abbrev LP:=List PV
def fy:PV->Bool
 | .agg _=>false
 | .undef=>false
 | .tup _=>false
 | .ago _=>false
 |_=>true
inductive RP (pc:Addr->Value->Prop):Value->PV->Prop
 |bool (b:Bool):RP pc (.bool b) (.bool b)
 |int (k:IntKind) (n:Int):RP pc (.int k n) (.int k n)
 |str (l:LB):RP pc (.string ⟨l.toArray⟩) (.str l)
 |nils:RP pc (.slice none 0 0) .nils
 |nilp:RP pc (.pointer none) .nilp
 |nilf:RP pc .nilFunc .nilf
 |nili:RP pc .nilIface .nili
 |nilm:RP pc (.map none) .nilm
 |sn {a:Option Addr} (b:Bool) (c:Nat) (h:a.isNone=b):RP pc (.slice a 0 c) (.sn b)
 |fn (f:FuncId):RP pc (.func (.func f) #[] #[]) (.fn f [])
 |vs {a:Option Addr} {n c sz:Nat} {xs:List LP} (U:Nat->Nat->Value) (hn:xs.length=n) (hc:n<=c)
   (hsz: ∀x∈xs,x.length=sz) (h1: ∀x∈xs,x.all fy=true)
   (ha:0<n->∃ad,a=some ad/\∀i x j u,xs[i]? =some x->x[j]? =some u->pc (ad.add (i*sz+j)) (U i j))
   (hr: ∀i x j u,xs[i]? =some x->x[j]? =some u->RP pc (U i j) u):RP pc (.slice a n c) (.vs xs)
 |agg {vs:Array Value} {cs:LP} (hl:vs.size=cs.length) (h: ∀i u,cs[i]? =some u->RP pc (vs.getD i undef) u):RP pc (.agg vs) (.agg cs)
 |tup {vs:Array Value} {cs:LP} (hl:vs.size=cs.length) (h: ∀i u,cs[i]? =some u->RP pc (vs.getD i undef) u):RP pc (.tuple vs) (.tup cs)
 |ifc (t:TypeId) {v:Value} {u:PV} (h:RP pc v u):RP pc (.iface t v) (.ifc t u)
theorem RP.mono{m e:Addr->Value->Prop}(p: ∀a v,m a v->e a v){v:Value}{u:PV}(h:RP m v u):RP e v u:=by induction h with|bool b=>exact .bool b|int k n=>exact .int k n|str l=>exact .str l|nils=>exact .nils|nilp=>exact .nilp|nilf=>exact .nilf|nili=>exact .nili|nilm=>exact .nilm|sn b c h=>exact .sn b c h|fn f=>exact .fn f|vs U hn hc hsz g ha hr ih=>refine .vs U hn hc hsz g (λh=> ?_) (λi x j u hx d=>ih i x j u hx d);obtain⟨ad,g,o⟩:=ha h;exact⟨ad,g,λi x j u hx d=>p _ _ (o i x j u hx d)⟩|agg hl _ ih=>exact .agg hl λi u d=>ih i u d|tup hl _ ih=>exact .tup hl λi u d=>ih i u d|ifc t _ ih=>exact .ifc t ih
structure Env where
 pc:Addr->Value->Prop
 ptr:Nat->Nat->Value->Prop
 os:Nat->Nat->Value->Prop
 oel:Nat->Nat->Nat->Nat->Value->Prop
 mh:Nat->Value->Prop
 oq:Nat->Nat->Value->Prop
structure Env.le(E F:Env):Prop where
 pc: ∀a v,E.pc a v->F.pc a v
 ptr: ∀n o v,E.ptr n o v->F.ptr n o v
 os: ∀n k v,E.os n k v->F.os n k v
 oel: ∀n k i o v,E.oel n k i o v->F.oel n k i o v
 mh: ∀n v,E.mh n v->F.mh n v
 oq: ∀n k v,E.oq n k v->F.oq n k v
theorem Env.le.refl(E:Env):Env.le E E:=⟨λ_ _ h=>h,λ_ _ _ h=>h,λ_ _ _ h=>h,λ_ _ _ _ _ h=>h,λ_ _ h=>h,λ_ _ _ h=>h⟩
theorem Env.le.trans{E F G:Env}(h:Env.le E F)(k:Env.le F G):Env.le E G:=
 ⟨λa v x=>k.pc a v (h.pc a v x),λn o v x=>k.ptr n o v (h.ptr n o v x),λn o v x=>k.os n o v (h.os n o v x),λn o i p v x=>k.oel n o i p v (h.oel n o i p v x),λn v x=>k.mh n v (h.mh n v x),λn o v x=>k.oq n o v (h.oq n o v x)⟩
inductive RV (E:Env):Value->PV->Prop
 |undef (v:Value):RV E v .undef
 |pure {v:Value} {u:PV} (h:RP E.pc v u):RV E v u
 |ptr {n off:Nat} {v:Value} (h:E.ptr n off v):RV E v (.ptr n off)
 |os {n k:Nat} {v:Value} (h:E.os n k v):RV E v (.os n k)
 |oel {n k i off:Nat} {v:Value} (h:E.oel n k i off v):RV E v (.oel n k i off)
 |osl {n k i c:Nat} {q:Addr} {v:Value} (hv:v= .slice (some q) (k - i) c) (h:E.oel n k i 0 (.pointer (some q))):RV E v (.osl n k i)
 |vx {xs:List LP} {a:Option Addr} {n:Nat} {v:Value} (hv:v= .slice a n n) (h:RP E.pc v (.vs xs)):RV E v (.vx xs)
 |mh {n:Nat} {v:Value} (h:E.mh n v):RV E v (.mh n)
 |oq {n k:Nat} {v:Value} (h:E.oq n k v):RV E v (.oq n k)
 |oqe {n k i sz off:Nat} {v0 v:Value} (h:E.oq n k v0) (h1: ∃q,v= .pointer (some q)) (hq: ∀b o m c,v0= .slice (some ⟨b,o,none⟩) m c->i<m->v= .pointer (some ⟨b,o+(i*sz+off),none⟩)):RV E v (.oqe n k i sz off)
 |el {q:Addr} {cs:LP} (U:Nat->Value) (ha: ∀j u,cs[j]? =some u->E.pc (q.add j) (U j)) (hr: ∀j u,cs[j]? =some u->RP E.pc (U j) u):RV E (.pointer (some q)) (.el cs)
 |agg {vs:Array Value} {cs:LP} (hl:vs.size=cs.length) (h: ∀i u,cs[i]? =some u->RV E (vs.getD i Go.undef) u):RV E (.agg vs) (.agg cs)
 |oss {n k i m c:Nat} {q:Addr} {v:Value} (hv:v= .slice (some q) m c) (h:E.oel n k i 0 (.pointer (some q))):RV E v (.oss n k i m)
 |ago {vs:Array Value} {cs:LP} (hl:vs.size=cs.length) (h: ∀i u,cs[i]? =some u->RV E (vs.getD i Go.undef) u):RV E (.agg vs) (.ago cs)
 |tup {vs:Array Value} {cs:LP} (hl:vs.size=cs.length) (h: ∀i u,cs[i]? =some u->RV E (vs.getD i Go.undef) u):RV E (.tuple vs) (.tup cs)
 |fn (f:FuncId) {vs:Array Value} {cs:LP} (hl:vs.size=cs.length) (h: ∀i u,cs[i]? =some u->RV E (vs.getD i Go.undef) u):RV E (.func (.func f) #[] vs) (.fn f cs)
theorem RV.mono{E F:Env}(a:Env.le E F){v:Value}{u:PV}(h:RV E v u):RV F v u:=by induction h with|undef v=>exact .undef v|pure h=>exact .pure (h.mono a.pc)|ptr h=>exact .ptr (a.ptr _ _ _ h)|os h=>exact .os (a.os _ _ _ h)|oel h=>exact .oel (a.oel _ _ _ _ _ h)|osl hv h=>exact .osl hv (a.oel _ _ _ _ _ h)|vx hv h=>exact .vx hv (h.mono a.pc)|mh h=>exact .mh (a.mh _ _ h)|oq h=>exact .oq (a.oq _ _ _ h)|oqe h h1 hq=>exact .oqe (a.oq _ _ _ h) h1 hq|oss hv h=>exact .oss hv (a.oel _ _ _ _ _ h)|ago hl _ ih=>exact .ago hl λi u b=>ih i u b|el U ha hr=>exact .el U (λj u b=>a.pc _ _ (ha j u b)) λj u b=>(hr j u b).mono a.pc|agg hl _ ih=>exact .agg hl λi u b=>ih i u b|tup hl _ ih=>exact .tup hl λi u b=>ih i u b|fn f hl _ ih=>exact .fn f hl λi u b=>ih i u b
inductive Box where
 |cells (cs:LP)
 |arr (e sz:Nat) (sh:Bool) (xs:List LP)
 |arh (e sz:Nat) (xs:List LP)
 |mp (es:List (PV×PV))
 |it (m k:Nat) (done:LN)
 |si (l:LB) (pos:Nat)
 |arq (e sz k:Nat) (xs:List LP)
 |dead (sz l:Nat)
 deriving Inhabited
def Box.dim:Box->Option (Nat×Nat)
 | .arr _ sz _ xs=>some (sz,xs.length)
 | .arh _ sz xs=>some (sz,xs.length)
 | .dead sz l=>some (sz,l)
 |_=>none
def Box.qdim:Box->Option (Nat×Nat)
 | .arq _ sz k _=>some (sz,k)
 |_=>none
def Box.isM:Box->Bool
 | .mp _=>true
 | .it _ _ _=>true
 | .si _ _=>true
 |_=>false
abbrev St:=Nat->Option Box
def Box.perm:Box->Nat->Prop
 | .arr _ sz true xs,off=>off<xs.length*sz
 |_,_=>False
def blk:Value->Option Nat
 | .pointer (some a)=>some a.block
 | .slice (some a) _ _=>some a.block
 | .map (some r)=>some r
 |_=>none
structure Laid(P:Program)(w:World):Prop where
 ok:True
def Tabs(P:Program)(gc:Nat->Obj->Prop):Prop:= ∀w:World,(∀b o,gc b o->w.heap[b]? =some o)->Laid P w
structure Ctx(P:Program) where
 w0:World
 V:Addr->Prop
 E:Nat->Prop
 hx:Nat->Option (Value×Box)
 gc:Nat->Obj->Prop
variable {P:Program}
def pcOf(x:Ctx P)(s:St)(hv:Nat->Value)(w:World)(a:Addr)(v:Value):Prop:=
 w.cell? a=some v/\(x.V a\/x.w0.heap.size<=a.block\/x.E a.block)/\∀n B,s n=some B->blk (hv n)=some a.block->B.perm a.off
def env(x:Ctx P)(s:St)(hv:Nat->Value)(w:World):Env where
 pc:=pcOf x s hv w
 ptr n off v:=(∃cs,s n=some (.cells cs))/\∃b,hv n= .pointer (some ⟨b,0,none⟩)/\v= .pointer (some ⟨b,off,none⟩)
 os n k v:=(∃a c,v= .slice a k c)/\∃B sz l,s n=some B/\B.dim=some (sz,l)/\k<=l/\(k=l->v=hv n)
 oel n k i off v:=(∃q,v= .pointer (some q))/\∃B sz l,s n=some B/\B.dim=some (sz,l)/\k<=l/\(k=l->i<k->∃b c,hv n= .slice (some ⟨b,0,none⟩) k c/\v= .pointer (some ⟨b,i*sz+off,none⟩))
 mh n v:=((∃b,blk v=some b)/\∃B,s n=some B/\B.isM=true)/\v=hv n
 oq n k v:=(∃a m c,v= .slice a m c)/\∃B sz l,s n=some B/\B.qdim=some (sz,l)/\k<=l/\(k=l->v=hv n)
def MapRep(E:Env)(w:World)(h:Value)(es:List (PV×PV)):Prop:=
 ∃b arr,h= .map (some b)/\w.heap[b]? =some (.map arr es.length)/\arr.size=es.length/\
  ∀(i:Nat) (p:PV×PV),es[i]? =some p->∃en:MapEntry,arr[i]? =some en/\en.born=i/\RP E.pc en.key p.1/\RV E en.val p.2
def axh(P:Program)(e:Nat):Prop:=P.underlying e=some (.int .u8)
def OwnM(P:Program)(w:World)(e sz:Nat)(v:Value)(n:Nat)(xs:List Value):Prop:=
 xs.length=n*sz/\((v= .slice none 0 0/\n=0)\/
  ∃g cap cur fz,v= .slice (some ⟨g,0,none⟩) n cap/\(fz=(0,0)\/axh P e/\fz=(cur.size,cur.size+1))/\w.heap[g]? =some (.cells cur e fz)/\n<=cap/\cap<=maxLen/\cur.size=cap*sz/\cur.toList.take (n*sz)=xs)
theorem OwnM.nil(P:Program)(w:World)(e sz:Nat):OwnM P w e sz (.slice none 0 0) 0 []:=⟨Ad,.inl ⟨rfl,rfl⟩⟩
theorem OwnM.of{P:Program}{w:World}{e sz n:Nat}{v:Value}{xs:List Value}(h:w.ownsRow 0 e sz v n xs):OwnM P w e sz v n xs:=by refine⟨h.1,?_⟩;rcases h.2 with c|⟨g,a,b,rfl,_,d,f⟩;{exact .inl c};.exact .inr ⟨g,a,b,(0,0),rfl,.inl rfl,d,f⟩
theorem OwnM.own{P:Program}{w:World}{e sz n:Nat}{v:Value}{xs:List Value}(j: ¬axh P e)(h:OwnM P w e sz v n xs):w.ownsRow 0 e sz v n xs:=by refine⟨h.1,?_⟩;rcases h.2 with d|⟨g,a,c,k,rfl,b,f,i⟩;{exact .inl d};.rcases b with rfl|b;{exact .inr ⟨g,a,c,rfl,b0k _,f,i⟩};.exact absurd b.1 j
theorem tz{P:Program}{e n:Nat}{a:Nat×Nat}(h:a=(0,0)\/axh P e/\a=(n,n+1)):a.2=0\/n<=a.1:=by rcases h with rfl|⟨_,rfl⟩;{exact .inl rfl};.exact .inr (b0f _)
theorem OwnM.cellAt{P:Program}{w:World}{e sz n c g:Nat}{xs:List Value}(h:OwnM P w e sz (.slice (some ⟨g,0,none⟩) n c) n xs)(j:Nat)(k:j<n*sz):w.cell? ⟨g,j,none⟩=xs[j]?:=by rcases h.2 with ⟨b,_⟩|⟨m,f,d,l,b,_,i,_,_,_,a⟩;{simp at b};.simp only[b33,b0c,b54,b7x,b8e]at b;obtain⟨rfl,rfl⟩:=b;rw[cell_of_row w g j d e l i,<-a,b04,if_pos k];simp
theorem OwnM.cells{P:Program}{w:World}{e sz n:Nat}{v:Value}{xs:List Value}(h:OwnM P w e sz v n xs){g:Nat}(b:v.ownBlock=some g): ∀j u,xs[j]? =some u->w.cell? ((⟨g,0,none⟩:Addr).add j)=some u:=by intro j u c;have f:j<n*sz:=(by rw[<-h.1];exact(dm.1 c).1);have a:(⟨g,0,none⟩:Addr).add j=⟨g,j,none⟩:=Dr;rw[a];rcases h.2 with ⟨rfl,_⟩|⟨k,d,i,l,rfl,_⟩;{simp[Value.ownBlock]at b};.simp[Value.ownBlock]at b;subst b;exact(h.cellAt j f).trans c
def OwnQ(w:World)(e sz:Nat)(v:Value)(n:Nat)(xs:List Value):Prop:=
 xs.length=n*sz/\((v= .slice none 0 0/\n=0)\/
  ∃g o cap cur fz,v= .slice (some ⟨g,o,none⟩) n cap/\(fz.2=0\/cur.size<=fz.1)/\w.heap[g]? =some (.cells cur e fz)/\n<=cap/\o+cap*sz<=cur.size/\(cur.toList.drop o).take (n*sz)=xs)
def BoxRep(P:Program)(E:Env)(w:World)(h:Value):Box->Prop
 | .cells cs=> ∃b t arr,h= .pointer (some ⟨b,0,none⟩)/\w.heap[b]? =some (.cells arr t (0,0))/\arr.size=cs.length/\∀i u,cs[i]? =some u->RV E (arr.getD i undef) u
 | .arr e sz _ xs=>0<sz/\∃ys:List Value,OwnM P w e sz h xs.length ys/\(∀x∈xs,x.length=sz)/\(∀x∈xs,x.all fy=true)/\∀i x j u,xs[i]? =some x->x[j]? =some u->RP E.pc (ys.getD (i*sz+j) undef) u
 | .arh e sz xs=>0<sz/\∃ys:List Value,OwnM P w e sz h xs.length ys/\(∀x∈xs,x.length=sz)/\(∀x∈xs,x.all fy=true)/\∀i x j u,xs[i]? =some x->x[j]? =some u->RV E (ys.getD (i*sz+j) undef) u
 | .mp es=>MapRep E w h es
 | .it m k done=> ∃r b,h= .pointer (some ⟨r,0,none⟩)/\w.heap[r]? =some (.mapIter (some b) k done.toArray k)/\E.mh m (.map (some b))
 | .si l pos=> ∃r,h= .pointer (some ⟨r,0,none⟩)/\w.heap[r]? =some (.stringIter ⟨l.toArray⟩ pos)
 | .arq e sz _ xs=>0<sz/\∃ys:List Value,OwnQ w e sz h xs.length ys/\(∀x∈xs,x.length=sz)/\(∀x∈xs,x.all fy=true)/\∀i x j u,xs[i]? =some x->x[j]? =some u->RP E.pc (ys.getD (i*sz+j) undef) u
 | .dead _ l=>(∀b,blk h=some b->b<w.heap.size)/\(0<l->∃g c,h= .slice (some ⟨g,0,none⟩) l c/\l<=c)
def Box.keep(A:Box)(h:Value)(B:Box)(h':Value):Prop:=
 match A with
 | .cells _=>(∃ds,B= .cells ds)/\h'=h
 | .arr _ sz _ xs=> ∃l,B.dim=some (sz,l)/\xs.length<=l/\(xs.length=l->h'=h)
 | .arh _ sz xs=> ∃l,B.dim=some (sz,l)/\xs.length<=l/\(xs.length=l->h'=h)
 | .mp _=>B.isM=true/\h'=h
 | .it _ _ _=>B.isM=true/\h'=h
 | .si _ _=>B.isM=true/\h'=h
 | .arq _ sz k _=> ∃l,B.qdim=some (sz,l)/\k<=l/\(k=l->h'=h)
 | .dead sz l0=> ∃l,B.dim=some (sz,l)/\l0<=l/\(l0=l->h'=h)
theorem Box.keep_dim{A B:Box}{h b:Value}{sz l:Nat}(a:A.dim=some (sz,l)):Box.keep A h B b↔∃l',B.dim=some (sz,l')/\l<=l'/\(l=l'->b=h):=by cases A<;>simp[Box.dim]at a<;>obtain⟨rfl,rfl⟩:=a<;>rfl
theorem Box.keep_M{A B:Box}{h a:Value}(b:A.isM=true):Box.keep A h B a↔B.isM=true/\a=h:=by cases A<;>simp[Box.isM]at b<;>rfl
theorem Box.keep_q{A B:Box}{h b:Value}{sz l:Nat}(a:A.qdim=some (sz,l)):Box.keep A h B b↔∃l',B.qdim=some (sz,l')/\l<=l'/\(l=l'->b=h):=by cases A<;>simp[Box.qdim]at a<;>obtain⟨rfl,rfl⟩:=a<;>rfl
theorem Box.keep_refl(B:Box)(h:Value):Box.keep B h B h:=by cases B<;>simp[Box.keep,Box.dim,Box.isM,Box.qdim]
theorem Box.keep_trans{A B C:Box}{h s q:Value}(c:Box.keep A h B s)(b:Box.keep B s C q):Box.keep A h C q:=by cases A with|cells cs=>obtain⟨⟨t,rfl⟩,rfl⟩:=c;exact b|arr e sz sh xs=>obtain⟨l,a,j,f⟩:=c;obtain⟨i,n,g,o⟩:=(Box.keep_dim a).1 b;exact⟨i,n,b1l j g,λr=>(o Aa).trans (f Aa)⟩|arh e sz xs=>obtain⟨l,a,j,f⟩:=c;obtain⟨i,n,g,o⟩:=(Box.keep_dim a).1 b;exact⟨i,n,b1l j g,λr=>(o Aa).trans (f Aa)⟩|mp es=>obtain⟨a,rfl⟩:=c;exact(Box.keep_M a).1 b|it m k d=>obtain⟨a,rfl⟩:=c;exact(Box.keep_M a).1 b|si l p=>obtain⟨a,rfl⟩:=c;exact(Box.keep_M a).1 b|arq e sz k0 xs=>obtain⟨l,a,j,f⟩:=c;obtain⟨i,n,g,o⟩:=(Box.keep_q a).1 b;exact⟨i,n,b1l j g,λr=>(o Aa).trans (f Aa)⟩|dead sz l0=>obtain⟨l,a,j,f⟩:=c;obtain⟨i,n,g,o⟩:=(Box.keep_dim a).1 b;exact⟨i,n,b1l j g,λr=>(o Aa).trans (f Aa)⟩
structure SimW(x:Ctx P)(s:St)(hv:Nat->Value)(w:World):Prop where
 os:w.os=x.w0.os
 tape:w.tape=x.w0.tape
 output:w.output=x.w0.output
 size:x.w0.heap.size<=w.heap.size
 old: ∀b,b<x.w0.heap.size->¬x.E b->w.heap[b]? =x.w0.heap[b]?
 box: ∀n B,s n=some B->BoxRep P (env x s hv w) w (hv n) B
 loc: ∀n B b,s n=some B->blk (hv n)=some b->x.w0.heap.size<=b\/x.E b
 inj: ∀n m B C b,s n=some B->s m=some C->blk (hv n)=some b->blk (hv m)=some b->n=m
 ext: ∀n p B,x.hx n=some p->s n=some B->Box.keep p.2 p.1 B (hv n)
 vis: ∀a,x.V a->¬x.E a.block/\a.block<x.w0.heap.size
 extin: ∀n,x.hx n≠none->s n≠none/\1000000<=n
 glb: ∀b o,x.gc b o->x.w0.heap[b]? =some o/\¬x.E b
 tabs:Tabs P x.gc
theorem MapRep.mono{E F:Env}(c:Env.le E F){w:World}{h:Value}{es:List (PV×PV)}(k:MapRep E w h es):MapRep F w h es:=by obtain⟨b,a,d,e,j,f⟩:=k;refine⟨b,a,d,e,j,λi p g=> ?_⟩;obtain⟨o,n,q,m,l⟩:=f i p g;exact⟨o,n,q,m.mono c.pc,l.mono c⟩
theorem BoxRep.mono{E F:Env}(q:Env.le E F){w:World}{h:Value}{B:Box}(n:BoxRep P E w h B):BoxRep P F w h B:=by cases B with|cells cs=>obtain⟨b,t,arr,c,f,g,v⟩:=n;exact⟨b,t,arr,c,f,g,λi u o=>(v i u o).mono q⟩|arr e sz sh xs=>obtain⟨h0,s,c,f,a,g⟩:=n;exact⟨h0,s,c,f,a,λi x j u hx o=>(g i x j u hx o).mono q.pc⟩|arh e sz xs=>obtain⟨h0,s,c,f,a,g⟩:=n;exact⟨h0,s,c,f,a,λi x j u hx o=>(g i x j u hx o).mono q⟩|mp es=>exact MapRep.mono q n|it m k d=>obtain⟨r,b,c,f,g⟩:=n;exact⟨r,b,c,f,q.mh _ _ g⟩|si l p=>exact n|arq e sz k xs=>obtain⟨h0,s,c,f,a,g⟩:=n;exact⟨h0,s,c,f,a,λi x j u hx o=>(g i x j u hx o).mono q.pc⟩|dead sz l=>exact n
theorem zl{w w':World}{e size:Nat}{v:Value}{n:Nat}{xs:List Value}(h:OwnM P w e size v n xs)
  (k: ∀b,blk v=some b->w'.heap[b]? =w.heap[b]?):OwnM P w' e size v n xs:=by refine⟨h.1,?_⟩;rcases h.2 with d|⟨g,a,c,l,rfl,f,i,j⟩;{exact .inl d};.exact .inr ⟨g,a,c,l,rfl,f,(k g rfl).trans i,j⟩
theorem a2x{w w':World}{e size:Nat}{v:Value}{n:Nat}{xs:List Value}(h:OwnQ w e size v n xs)
  (j: ∀b,blk v=some b->w'.heap[b]? =w.heap[b]?):OwnQ w' e size v n xs:=by refine⟨h.1,?_⟩;rcases h.2 with d|⟨g,o,a,c,k,rfl,l,f,i⟩;{exact .inl d};.exact .inr ⟨g,o,a,c,k,rfl,l,(j g rfl).trans f,i⟩
theorem bik{w:World}{e size:Nat}{v:Value}{n:Nat}{xs:List Value}(h:OwnQ w e size v n xs){b:Nat}(a:blk v=some b):b<w.heap.size:=by rcases h.2 with ⟨rfl,_⟩|⟨g,o,c,f,j,rfl,k,d,i⟩;{cases a};.have:g=b:=(by simpa [blk] using a);subst this;exact(b03.1 d).1
theorem BoxRep.same{E:Env}{w w':World}{h:Value}{B:Box}(f:BoxRep P E w h B)(hs: ∀b,blk h=some b->w'.heap[b]? =w.heap[b]?):BoxRep P E w' h B:=by cases B with|cells cs=>obtain⟨b,t,arr,rfl,a,c,n⟩:=f;exact⟨b,t,arr,rfl,(hs b rfl).trans a,c,n⟩|arr e sz sh xs=>obtain⟨h0,i,g,a,c⟩:=f;exact⟨h0,i,zl g hs,a,c⟩|arh e sz xs=>obtain⟨h0,i,g,a,c⟩:=f;exact⟨h0,i,zl g hs,a,c⟩|mp es=>obtain⟨b,arr,rfl,a,c⟩:=f;exact⟨b,arr,rfl,(hs b rfl).trans a,c⟩|it m k d=>obtain⟨r,b,rfl,a,c⟩:=f;exact⟨r,b,rfl,(hs r rfl).trans a,c⟩|si l p=>obtain⟨r,rfl,a⟩:=f;exact⟨r,rfl,(hs r rfl).trans a⟩|arq e sz k xs=>obtain⟨h0,i,g,a,c⟩:=f;exact⟨h0,i,a2x g hs,a,c⟩|dead sz l=>refine⟨λb j=> ?_,f.2⟩;have g:=f.1 b j;have a:=(hs b j).trans (b11 g);exact(b03.1 a).1
theorem tu{w:World}{e size:Nat}{v:Value}{n:Nat}{xs:List Value}(h:OwnM P w e size v n xs){b:Nat}(a:blk v=some b):b<w.heap.size:=by rcases h.2 with ⟨rfl,_⟩|⟨g,c,f,k,rfl,i,d,j⟩;{cases a};.have:g=b:=(by simpa [blk] using a);subst this;exact(b03.1 d).1
theorem BoxRep.lt{E:Env}{w:World}{h:Value}{B:Box}(c:BoxRep P E w h B){b:Nat}(f:blk h=some b):b<w.heap.size:=by cases B with|cells cs=>obtain⟨j,t,arr,rfl,a,i,o⟩:=c;have:j=b:=Dx;subst this;exact(b03.1 a).1|arr e sz sh xs=>obtain⟨h0,n,g,a,i⟩:=c;exact tu g f|arh e sz xs=>obtain⟨h0,n,g,a,i⟩:=c;exact tu g f|mp es=>obtain⟨j,arr,rfl,a,i⟩:=c;have:j=b:=Dx;subst this;exact(b03.1 a).1|it m k d=>obtain⟨r,j,rfl,a,i⟩:=c;have:r=b:=Dx;subst this;exact(b03.1 a).1|si l p=>obtain⟨r,rfl,a⟩:=c;have:r=b:=Dx;subst this;exact(b03.1 a).1|arq e sz k xs=>obtain⟨h0,n,g,a,i⟩:=c;exact bik g f|dead sz l=>exact c.1 b f
theorem SimW.step{x:Ctx P}{s s':St}{hv a:Nat->Value}{w w':World}(h:SimW x s hv w)
  (q:w'.os=w.os) (i:w'.tape=w.tape) (k:w'.output=w.output) (g:w.heap.size<=w'.heap.size)
  (r:Env.le (env x s hv w) (env x s' a w')) (j: ∀n,s n≠none->s' n≠none)
  (o: ∀b,b<x.w0.heap.size->¬x.E b->w'.heap[b]? =w.heap[b]?)
  (c: ∀n B,s' n=some B->
   (s n=some B/\a n=hv n/\∀b,blk (hv n)=some b->w'.heap[b]? =w.heap[b]?)\/
   (BoxRep P (env x s' a w') w' (a n) B/\(∀p,x.hx n=some p->Box.keep p.2 p.1 B (a n))/\∀b,blk (a n)=some b->(x.w0.heap.size<=b\/x.E b)/\∀m C,m≠n->s' m=some C->blk (a m)≠some b)):
  SimW x s' a w' where
 extin n hn:=⟨j n (h.extin n hn).1,(h.extin n hn).2⟩
 os:=q.trans h.os
 tape:=i.trans h.tape
 output:=k.trans h.output
 size:=b1l h.size g
 old b hb he:=(o b hb he).trans (h.old b hb he)
 box n B hB:=by
  rcases c n B hB with ⟨d,e,f⟩|⟨d,_⟩
  .rw[e];exact((h.box n B d).mono r).same f
  .exact d
 loc n B b hB hb:=by
  rcases c n B hB with ⟨d,e,f⟩|⟨d,e,f⟩
  .rw[e]at hb;exact h.loc n B b d hb
  .exact(f b hb).1
 inj n m B C b hB hC hn hm:=by
  rcases Nat.decEq n m with l|he
  .rcases c n B hB with ⟨d,e,f⟩|⟨d,e,f⟩
   .rcases c m C hC with ⟨k1,k2,k3⟩|⟨k1,k2,k3⟩
    .rw[e]at hn;rw[k2]at hm;exact h.inj n m B C b d k1 hn hm
    .exact absurd hn ((k3 b hm).2 n B l hB)
   .exact absurd hm ((f b hn).2 m C (Ne.symm l) hC)
  .exact he
 ext n hh B hx hB:=by
  rcases c n B hB with ⟨d,e,f⟩|⟨d,e,f⟩
  .rw[e];exact h.ext n hh B hx d
  .exact e hh hx
 vis:=h.vis
 glb:=h.glb
 tabs:=h.tabs
theorem SimW.blk_lt{x:Ctx P}{s:St}{hv:Nat->Value}{w:World}(h:SimW x s hv w){n:Nat}{B:Box}{b:Nat}(c:s n=some B)(a:blk (hv n)=some b):b<w.heap.size:=
 (h.box n B c).lt a
theorem SimW.congr{x:Ctx P}{s s':St}{hv:Nat->Value}{w:World}(h:SimW x s hv w)(hs: ∀n,s' n=s n):SimW x s' hv w:=by
 have:s'=s:=funext hs;rw[this];exact h
/- Steps of the world: what they do to boxes and handles. -/
variable {P:Program}
def upd{α:Type}(s:Nat->α)(d:Nat)(b:α):Nat->α:=λn=>if n=d then b else s n
@[simp] theorem av {α:Type} (s:Nat->α) (d:Nat) (b:α):upd s d b d=b:=by simp[upd]
theorem ak{α:Type}(s:Nat->α){d n:Nat}(b:α)(h:n≠d):upd s d b n=s n:=by simp[upd,h]
theorem qh{x:Ctx P}{s s':St}{hv j:Nat->Value}{w w':World}(z: ∀a v,pcOf x s hv w a v->pcOf x s' j w' a v)
  (p: ∀n B,s n=some B->∃B',s' n=some B'/\Box.keep B (hv n) B' (j n)):Env.le (env x s hv w) (env x s' j w') where
 pc:=z
 ptr n o v:=by
  rintro⟨⟨cs,D⟩,b,A,c⟩;obtain⟨B',e,f⟩:=p n _ D;obtain⟨⟨C,rfl⟩,g⟩:=f;exact⟨⟨C,e⟩,b,by rw[g];exact A,c⟩
 os n k v:=by
  rintro⟨d,B,r,l,hs,h,u,c⟩;obtain⟨B',e,f⟩:=p n _ hs;obtain⟨m,g,y,t⟩:=(Box.keep_dim h).1 f;refine⟨d,B',r,m,e,g,Aa,λq=> ?_⟩;rw[t Aa];exact c Aa
 oel n k i o v:=by
  rintro⟨d,B,r,l,hs,h,u,c⟩;obtain⟨B',e,f⟩:=p n _ hs;obtain⟨m,g,y,t⟩:=(Box.keep_dim h).1 f;refine⟨d,B',r,m,e,g,Aa,λq=> ?_⟩;rw[t Aa];exact c Aa
 mh n v:=by
  rintro⟨⟨A,B,hs,h⟩,c⟩;obtain⟨B',e,f⟩:=p n _ hs;obtain⟨g,y⟩:=(Box.keep_M h).1 f;exact⟨⟨A,B',e,g⟩,by rw[y];exact c⟩
 oq n k v:=by
  rintro⟨d,B,r,l,hs,h,u,c⟩;obtain⟨B',e,f⟩:=p n _ hs;obtain⟨m,g,y,t⟩:=(Box.keep_q h).1 f;refine⟨d,B',r,m,e,g,Aa,λq=> ?_⟩;rw[t Aa];exact c Aa
theorem pcOf.lt{x:Ctx P}{s:St}{hv:Nat->Value}{w:World}{a:Addr}{v:Value}(h:pcOf x s hv w a v):a.block<w.heap.size:=block_lt_of_cell h.1
theorem SimW.drew{x:Ctx P}{s:St}{hv:Nat->Value}{w:World}(h:SimW x s hv w)(k:Nat):
  SimW x s hv (w.drewN k)/\Env.le (env x s hv w) (env x s hv (w.drewN k)):=
 have b:Env.le (env x s hv w) (env x s hv (w.drewN k)):=qh (λ_ _ d=>d) λn B a=>⟨B,a,Box.keep_refl _ _⟩
 ⟨h.step rfl rfl rfl (b0f _) b (λ_ c=>c) (λ_ _ _=>rfl) λn B a=> .inl ⟨a,rfl,λ_ _=>rfl⟩,b⟩
theorem ayy{x:Ctx P}{s:St}{hv:Nat->Value}{w w':World}{d:Nat}{B:Box}{h:Value}(hd:s d=none)(f: ∀b,b<w.heap.size->w'.heap[b]? =w.heap[b]?)
  (i: ∀b,blk h=some b->w.heap.size<=b):Env.le (env x s hv w) (env x (upd s d (some B)) (upd hv d h) w'):=by refine qh (λa v e=>⟨(b2y (f a.block e.lt)).trans e.1,e.2.1,λn C c g=> ?_⟩) λn C c=>⟨C,?_,?_⟩;{by_cases hn:n=d;{subst hn;rw[av]at g;have:=i _ g;have:=e.lt;omega};.rw[ak _ _ hn]at c g;exact e.2.2 n C c g};{by_cases hn:n=d;{subst hn;rw[hd]at c;cases c};.rw[ak _ _ hn];exact c};.by_cases hn:n=d;{subst hn;rw[hd]at c;cases c};.rw[ak _ _ hn];exact Box.keep_refl _ _
theorem SimW.new{x:Ctx P}{s:St}{hv:Nat->Value}{w w':World}{d:Nat}{B:Box}{hd:Value}(h:SimW x s hv w)(t:s d=none)
  (o:w'.os=w.os) (g:w'.tape=w.tape) (j:w'.output=w.output) (f:w.heap.size<=w'.heap.size)
  (a: ∀b,b<w.heap.size->w'.heap[b]? =w.heap[b]?) (l: ∀b,blk hd=some b->w.heap.size<=b)
  (u: ∀E,Env.le (env x s hv w) E->BoxRep P E w' hd B):
  SimW x (upd s d (some B)) (upd hv d hd) w'/\Env.le (env x s hv w) (env x (upd s d (some B)) (upd hv d hd) w'):=by have q:=ayy (x:=x) (hv:=hv) (B:=B) t a l;have hx:x.hx d=none:=(by cases hq:x.hx d with|none=>rfl|some k=>exact absurd t (h.extin d (by rw[hq];simp)).1);refine⟨h.step o g j f q (λm r=>Aw) (λb e _=>a b (b24 e h.size)) λn C c=> ?_,q⟩;by_cases i:n=d;{subst i;rw[av]at c;cases c;refine .inr ⟨?_,?_,?_⟩;{rw[av];exact u _ q};{intro k hk;rw[hx]at hk;cases hk};.intro b e;rw[av]at e;refine⟨.inl (b1l h.size (l b e)),λm C r c=> ?_⟩;rw[ak _ _ r]at c ⊢;intro p;have:=h.blk_lt c p;have:=l b e;omega};.rw[ak _ _ i]at c ⊢;exact .inl ⟨c,rfl,λb e=>a b (h.blk_lt c e)⟩
theorem SimW.newCells{x:Ctx P}{s:St}{hv:Nat->Value}{w:World}{d:Nat}{a:Array Value}{t:TypeId}{cs:LP}(h:SimW x s hv w)(f:s d=none)
  (j:a.size=cs.length) (g: ∀i u,cs[i]? =some u->RV (env x s hv w) (a.getD i undef) u):
  SimW x (upd s d (some (.cells cs))) (upd hv d (.pointer (some ⟨w.heap.size,0,none⟩))) (w.alloc (.cells a t))/\
   Env.le (env x s hv w) (env x (upd s d (some (.cells cs))) (upd hv d (.pointer (some ⟨w.heap.size,0,none⟩))) (w.alloc (.cells a t))):=
 h.new f rfl rfl rfl Ad (λb c=>heap_alloc_old w _ b c) (λb c=>by simp[blk]at c;omega)
  λE k=>⟨w.heap.size,t,a,rfl,heap_alloc_new w _,j,λi u e=>(g i u e).mono k⟩
theorem SimW.write{x:Ctx P}{s:St}{hv:Nat->Value}{w w':World}{n:Nat}{B B':Box}(h:SimW x s hv w)(i:s n=some B)(o:Box.keep B (hv n) B' (hv n))
  (z: ∀off,¬B.perm off)
  (t:w'.os=w.os) (l:w'.tape=w.tape) (p:w'.output=w.output) (j:w.heap.size<=w'.heap.size)
  (d: ∀b,b<w.heap.size->blk (hv n)≠some b->w'.heap[b]? =w.heap[b]?)
  (r: ∀E,Env.le (env x s hv w) E->BoxRep P E w' (hv n) B'):
  SimW x (upd s n (some B')) hv w'/\Env.le (env x s hv w) (env x (upd s n (some B')) hv w'):=by have u:Env.le (env x s hv w) (env x (upd s n (some B')) hv w'):=(by refine qh (λa v q=> ?_) λm C c=> ?_;{have hne:blk (hv n)≠some a.block:=λe=>z _ (q.2.2 n B i e);refine⟨(b2y (d a.block q.lt hne)).trans q.1,q.2.1,λm C c f=> ?_⟩;by_cases g:m=n;{subst g;exact absurd f hne};.rw[ak _ _ g]at c;exact q.2.2 m C c f};.by_cases g:m=n;{subst g;rw[i]at c;cases c;exact⟨B',av _ _ _,o⟩};.exact⟨C,by rw[ak _ _ g];exact c,Box.keep_refl _ _⟩);refine⟨h.step t l p j u (λm g=>Aw) (λb f D=>d b (b24 f h.size) λe=> ?_) λm C c=> ?_,u⟩;{rcases h.loc n B b i e with h1|h1;{omega};.exact D h1};.by_cases g:m=n;{subst g;rw[av]at c;cases c;refine .inr ⟨r _ u,λA hx=>Box.keep_trans (h.ext m A B hx i) o,λb f=>⟨h.loc m B b i f,λk C o c y=> ?_⟩⟩;rw[ak _ _ o]at c;exact o (h.inj k m C B b c i y f)};.rw[ak _ _ g]at c;refine .inl ⟨c,rfl,λb f=>d b (h.blk_lt c f) λe=> ?_⟩;exact g (h.inj m n C B b c i f e)
theorem SimW.grow{x:Ctx P}{s:St}{hv:Nat->Value}{w w':World}{n:Nat}{e sz:Nat}{sh:Bool}{xs zs:List LP}{v':Value}
  (h:SimW x s hv w) (y:s n=some (.arr e sz sh xs))
  (G:w.grownBy w' (hv n).ownBlock) (z: ∀b j u,blk (hv n)=some b->j<xs.length*sz->w.cell? ⟨b,j,none⟩=some u->w'.cell? ⟨b,j,none⟩=some u)
  (F:blk v'=blk (hv n)\/∃b,blk v'=some b/\w.heap.size<=b) (R:zs=[]->v'=hv n)
  (O: ∀E,Env.le (env x s hv w) E->BoxRep P E w' v' (.arr e sz sh (xs++zs))):
  SimW x (upd s n (some (.arr e sz sh (xs++zs)))) (upd hv n v') w'/\Env.le (env x s hv w) (env x (upd s n (some (.arr e sz sh (xs++zs)))) (upd hv n v') w'):=by have H: ∀v:Value,(∃J,OwnM P w e sz v xs.length J)->v.ownBlock=blk v:=(by rintro v ⟨J,U⟩;rcases U.2 with ⟨rfl,_⟩|⟨g,S,V,Z,rfl,_⟩<;>rfl);obtain⟨h0,J,K,_⟩:=h.box n _ y;have L:(hv n).ownBlock=blk (hv n):=H _ ⟨J,K⟩;have r: ∀b,b<w.heap.size->blk (hv n)≠some b->w'.heap[b]? =w.heap[b]?:=λb d t=>G.block b d (by rw[L];exact λe=>t e.symm);have N:Env.le (env x s hv w) (env x (upd s n (some (.arr e sz sh (xs++zs)))) (upd hv n v') w'):=(by refine qh (λa v A=> ?_) λm C c=> ?_;{refine⟨?_,A.2.1,λm C c d=> ?_⟩;{by_cases t:blk (hv n)=some a.block;{have B:=A.2.2 n _ y t;cases sh with|false=>exact B.elim|true=>have D:a=⟨a.block,a.off,none⟩:=(by have f:=A.1;cases a with|mk b o sp=>cases sp with|none=>rfl|some q=>exfalso;simp only[World.cell?]at f;split at f<;>simp at f);have:=z a.block a.off v t B (by rw[<-D];exact A.1);rwa [<-D]at this};.exact(b2y (r a.block A.lt t)).trans A.1};.by_cases i:m=n;{subst i;rw[av]at c d;cases c;rcases F with f|⟨b,f,Q⟩;{have B:=A.2.2 m _ y (f ▸ d);cases sh with|false=>exact B.elim|true=>show a.off<(xs++zs).length*sz;have X:a.off<xs.length*sz:=B;rw[b0a,b2a];omega};.rw[f]at d;have W:=A.lt;have:b=a.block:=Aq;omega};.rw[ak _ _ i]at c d;exact A.2.2 m C c d};.by_cases i:m=n;{subst i;rw[y]at c;cases c;refine⟨_,av _ _ _,_,rfl,Ad,λM=> ?_⟩;rw[av];exact R (b0u (by rw[b0a]at M;omega))};.exact⟨C,by rw[ak _ _ i];exact c,by rw[ak _ _ i];exact Box.keep_refl _ _⟩);refine⟨h.step G.os G.tape G.output G.size N (λm i=>Aw) (λb d Y=>r b (b24 d h.size) λe=> ?_) λm C c=> ?_,N⟩;{rcases h.loc n _ b y e with f|f;{omega};.exact Y f};.by_cases i:m=n;{subst i;rw[av]at c;cases c;refine .inr ⟨by rw[av];exact O _ N,λp B=>Box.keep_trans (h.ext m p _ B y) ⟨_,rfl,Ad,λM=>by rw[av];exact R (b0u (by rw[b0a]at M;omega))⟩,λb d=> ?_⟩;rw[av]at d;rcases F with f|⟨T,f,Q⟩;{rw[f]at d;refine⟨h.loc m _ b y d,λk C I c l=> ?_⟩;rw[ak _ _ I]at c l;exact I (h.inj k m C _ b c y l d)};.rw[f]at d;have:T=b:=Aq;subst this;refine⟨.inl (b1l h.size Q),λk C I c l=> ?_⟩;rw[ak _ _ I]at c l;have:=h.blk_lt c l;omega};.rw[ak _ _ i]at c;refine .inl ⟨c,ak _ _ i,λb d=>r b (h.blk_lt c d) λe=> ?_⟩;exact i (h.inj m n C _ b c y d e)
inductive Hin (d:Nat->Prop):PV->Prop
 |undef:Hin d .undef
 |bool (b:Bool):Hin d (.bool b)
 |int (k:IntKind) (n:Int):Hin d (.int k n)
 |str (l:LB):Hin d (.str l)
 |nils:Hin d .nils
 |nilp:Hin d .nilp
 |nilf:Hin d .nilf
 |nili:Hin d .nili
 |nilm:Hin d .nilm
 |vs (xs:List LP):Hin d (.vs xs)
 |sn (b:Bool):Hin d (.sn b)
 |el (cs:LP):Hin d (.el cs)
 |ifc (t:TypeId) (u:PV):Hin d (.ifc t u)
 |ptr (n o:Nat) (h:d n):Hin d (.ptr n o)
 |os (n k:Nat) (h:d n):Hin d (.os n k)
 |oel (n k i o:Nat) (h:d n):Hin d (.oel n k i o)
 |osl (n k i:Nat) (h:d n):Hin d (.osl n k i)
 |vx (xs:List LP):Hin d (.vx xs)
 |mh (n:Nat) (h:d n):Hin d (.mh n)
 |oq (n k:Nat) (h:d n):Hin d (.oq n k)
 |oqe (n k i sz off:Nat) (h:d n):Hin d (.oqe n k i sz off)
 |ago (cs:LP) (h: ∀u∈cs,Hin d u):Hin d (.ago cs)
 |oss (n k i m:Nat) (h:d n):Hin d (.oss n k i m)
 |agg (cs:LP) (h: ∀u∈cs,Hin d u):Hin d (.agg cs)
 |tup (cs:LP) (h: ∀u∈cs,Hin d u):Hin d (.tup cs)
 |fn (f:FuncId) (cs:LP) (h: ∀u∈cs,Hin d u):Hin d (.fn f cs)
theorem RV.hin{E F:Env}{d:Nat->Prop}(c: ∀a v,E.pc a v->F.pc a v)(l: ∀n o v,d n->E.ptr n o v->F.ptr n o v)(p: ∀n k v,d n->E.os n k v->F.os n k v)
  (e: ∀n k i o v,d n->E.oel n k i o v->F.oel n k i o v) (m: ∀n v,d n->E.mh n v->F.mh n v) (g: ∀n k v,d n->E.oq n k v->F.oq n k v) {v:Value} {u:PV} (h:RV E v u) (hd:Hin d u):RV F v u:=by induction h with|undef v=>exact .undef v|pure h=>exact .pure (h.mono c)|ptr h=>(cases hd with|ptr _ _ hn=>exact .ptr (l _ _ _ hn h))|os h=>(cases hd with|os _ _ hn=>exact .os (p _ _ _ hn h))|oel h=>(cases hd with|oel _ _ _ _ hn=>exact .oel (e _ _ _ _ _ hn h))|osl hv h=>(cases hd with|osl _ _ _ hn=>exact .osl hv (e _ _ _ _ _ hn h))|vx hv h=>exact .vx hv (h.mono c)|mh h=>(cases hd with|mh _ hn=>exact .mh (m _ _ hn h))|oq h=>(cases hd with|oq _ _ hn=>exact .oq (g _ _ _ hn h))|oqe h h1 hq=>(cases hd with|oqe _ _ _ _ _ hn=>exact .oqe (g _ _ _ hn h) h1 hq)|oss hv h=>(cases hd with|oss _ _ _ _ hn=>exact .oss hv (e _ _ _ _ _ hn h))|ago hl _ ih=>(cases hd with|ago _ hn=>exact .ago hl λi u b=>ih i u b (hn u (b0e b)))|el U ha hr=>exact .el U (λj u b=>c _ _ (ha j u b)) λj u b=>(hr j u b).mono c|agg hl _ ih=>(cases hd with|agg _ hn=>exact .agg hl λi u b=>ih i u b (hn u (b0e b)))|tup hl _ ih=>(cases hd with|tup _ hn=>exact .tup hl λi u b=>ih i u b (hn u (b0e b)))|fn f hl _ ih=>cases hd with|fn _ _ hn=>exact .fn f hl λi u b=>ih i u b (hn u (b0e b))
def Box.hin(d:Nat->Prop):Box->Prop
 | .cells cs=> ∀u∈cs,Hin d u
 | .arr _ _ _ _=>True
 | .arh _ _ xs=> ∀x∈xs,∀u∈x,Hin d u
 | .mp es=> ∀e∈es,Hin d e.2
 | .it m _ _=>d m
 | .si _ _=>True
 | .arq _ _ _ _=>True
 | .dead _ _=>True
theorem SimW.drop{x:Ctx P}{s s':St}{hv:Nat->Value}{w:World}(h:SimW x s hv w)(hs: ∀n B,s' n=some B->s n=some B)
  (hd: ∀n B,s' n=some B->B.hin (λm=>s' m≠none)) (Y: ∀n,x.hx n≠none->s' n≠none):
  SimW x s' hv w/\(∀v u,RV (env x s hv w) v u->Hin (λm=>s' m≠none) u->RV (env x s' hv w) v u):=by
 have f: ∀n B,s' n≠none->s n=some B->s' n=some B:=λn B q y=>by cases hq:s' n with|none=>exact absurd hq q|some C=>have:=hs n C hq;rw[y]at this;exact this.symm
 have I: ∀a v,pcOf x s hv w a v->pcOf x s' hv w a v:=λa v L=>⟨L.1,L.2.1,λn B y g=>L.2.2 n B (hs n B y) g⟩
 have N: ∀v u,RV (env x s hv w) v u->Hin (λm=>s' m≠none) u->RV (env x s' hv w) v u:=λv u O D=>
  O.hin (F:=env x s' hv w) I (λn o v q=>by rintro⟨⟨cs,H⟩,c⟩;exact⟨⟨cs,f n _ q H⟩,c⟩) (λn k v q=>by rintro⟨z,B,J,l,H,c⟩;exact⟨z,B,J,l,f n _ q H,c⟩) (λn k i o v q=>by rintro⟨z,B,J,l,H,c⟩;exact⟨z,B,J,l,f n _ q H,c⟩) (λn v q=>by rintro⟨⟨g,B,H,R⟩,c⟩;exact⟨⟨g,B,f n _ q H,R⟩,c⟩) (λn k v q=>by rintro⟨z,B,J,l,H,c⟩;exact⟨z,B,J,l,f n _ q H,c⟩) D
 refine⟨{h with extin:=λn q=>⟨Y n q,(h.extin n q).2⟩,box:=λn B y=> ?_,loc:=λn B b y g=>h.loc n B b (hs n B y) g,inj:=λn m B C b y T=>h.inj n m B C b (hs n B y) (hs m C T),ext:=λn k B hx y=>h.ext n k B hx (hs n B y)},N⟩;have g:=h.box n B (hs n B y);have hin:=hd n B y
 cases B with|cells cs=>obtain⟨b,t,arr,E,A,K,Q⟩:=g;exact⟨b,t,arr,E,A,K,λi u D=>N _ _ (Q i u D) (hin u (b0e D))⟩|arr e J sh xs=>obtain⟨h0,M,E,A,G,K⟩:=g;exact⟨h0,M,E,A,G,λi x j u hx D=>(K i x j u hx D).mono I⟩|arh e J xs=>obtain⟨h0,M,E,A,G,K⟩:=g;exact⟨h0,M,E,A,G,λi x j u hx D=>N _ _ (K i x j u hx D) (hin x (b0e hx) u (b0e D))⟩|mp es=>obtain⟨b,arr,E,A,K,Q⟩:=g;refine⟨b,arr,E,A,K,λi p L=> ?_⟩;obtain⟨X,S,U,W,V⟩:=Q i p L;exact⟨X,S,U,W.mono I,N _ _ V (hin p (b0e L))⟩|it m k d=>obtain⟨r,b,E,A,⟨⟨g,B,H,R⟩,c⟩⟩:=g;exact⟨r,b,E,A,⟨⟨g,B,f m _ hin H,R⟩,c⟩⟩|si l p=>exact g|arq e J k xs=>obtain⟨h0,M,E,A,G,K⟩:=g;exact⟨h0,M,E,A,G,λi x j u hx D=>(K i x j u hx D).mono I⟩|dead J l=>exact g
def Box.share:Box->Box
 | .arr e sz _ xs=> .arr e sz true xs
 |B=>B
theorem SimW.shared{x:Ctx P}{s s':St}{hv:Nat->Value}{w:World}(h:SimW x s hv w)(hs: ∀n,s' n=s n\/s' n=(s n).map Box.share):
  SimW x s' hv w/\Env.le (env x s hv w) (env x s' hv w):=by have d: ∀n f,s' n=some f->∃B,s n=some B/\(f=B\/f=B.share):=λn f c=>(by rcases hs n with h1|h1;{exact⟨f,by rw[<-h1];exact c,.inl rfl⟩};.rw[h1]at c;cases hq:s n with|none=>rw[hq]at c;cases c|some B=>rw[hq]at c;exact⟨B,rfl,.inr (by simpa using c.symm)⟩);have q:Env.le (env x s hv w) (env x s' hv w):=(by refine qh (λa v j=>⟨j.1,j.2.1,λn f c g=> ?_⟩) λn B p=> ?_;{obtain⟨B,h1,h2⟩:=d n f c;have i:=j.2.2 n B h1 g;rcases h2 with rfl|rfl;{exact i};.cases B with|arr e sz sh xs=>(cases sh with|false=>exact i.elim|true=>exact i)|_=>exact i};.rcases hs n with h1|h1;{exact⟨B,by rw[h1];exact p,Box.keep_refl _ _⟩};.refine⟨B.share,by rw[h1,p];rfl,?_⟩;cases B<;>simp[Box.keep,Box.share,Box.dim,Box.isM,Box.qdim]);refine⟨{h with extin:=λn o=>⟨by have:=(h.extin n o).1;rcases hs n with h1|h1<;>rw[h1]<;>simp[this],(h.extin n o).2⟩,box:=λn f c=> ?_,loc:=λn f b c g=> ?_,inj:=λn m f t b c l=> ?_,ext:=λn k f hx c=> ?_},q⟩;{obtain⟨B,h1,h2⟩:=d n f c;have g:=(h.box n B h1).mono q;rcases h2 with rfl|rfl;{exact g};.cases B with|cells cs=>exact g|arr e sz sh xs=>exact g|_=>exact g};{obtain⟨B,h1,h2⟩:=d n f c;exact h.loc n B b h1 g};{obtain⟨B,h1,h2⟩:=d n f c;obtain⟨C,r,u⟩:=d m t l;exact h.inj n m B C b h1 r};.obtain⟨B,h1,h2⟩:=d n f c;refine Box.keep_trans (h.ext n k B hx h1) ?_;rcases h2 with rfl|rfl;{exact Box.keep_refl _ _};.cases B<;>simp[Box.keep,Box.share,Box.dim,Box.isM,Box.qdim]
theorem fh(b o j:Nat):(⟨b,o,none⟩:Addr).add j=⟨b,o+j,none⟩:=by unfold Addr.add;split;{rename_i h;simp[h]};.rfl
theorem jr{n sz i j:Nat}(hi:i<n)(a:j<sz):i*sz+j<n*sz:=by have:(i+1)*sz<=n*sz:=b08 _ hi;rw[b2a]at this;omega
theorem ag8{α:Type}{l:List α}{i:Nat}{a:α}(d:α)(h:l[i]? =some a):l.getD i d=a:=by rw[bd,h];rfl
theorem BoxRep.cellAt{E:Env}{w:World}{h:Value}{e sz:Nat}{sh:Bool}{xs:List LP}(o:BoxRep P E w h (.arr e sz sh xs))(D:0<xs.length):
  ∃g c,h= .slice (some ⟨g,0,none⟩) xs.length c/\xs.length<=c/\∀i x j u,xs[i]? =some x->x[j]? =some u->∃v,w.cell? ⟨g,i*sz+j,none⟩=some v/\RP E.pc v u:=by obtain⟨h0,z,f,s,p,t⟩:=o;rcases f.2 with ⟨rfl,q⟩|⟨g,d,r,C,rfl,F,H,y,B,G,n⟩;{omega};.refine⟨g,d,rfl,y,λi x j u hx k=> ?_⟩;have m:i<xs.length:=(dm.1 hx).1;have A:j<sz:=(by have:=(dm.1 k).1;rw[s x (b0e hx)]at this;exact this);have b:=jr m A;have l:=f.cellAt (i*sz+j) b;have a:i*sz+j<z.length:=(by rw[f.1];exact b);rw[bq a]at l;refine⟨_,l,?_⟩;have:=t i x j u hx k;rwa [ag8 undef (bq a)]at this
theorem BoxRep.cellAtH{E:Env}{w:World}{h:Value}{e sz:Nat}{xs:List LP}(o:BoxRep P E w h (.arh e sz xs))(D:0<xs.length):
  ∃g c,h= .slice (some ⟨g,0,none⟩) xs.length c/\xs.length<=c/\∀i x j u,xs[i]? =some x->x[j]? =some u->∃v,w.cell? ⟨g,i*sz+j,none⟩=some v/\RV E v u:=by obtain⟨h0,z,f,s,p,t⟩:=o;rcases f.2 with ⟨rfl,q⟩|⟨g,d,r,C,rfl,F,H,y,B,G,n⟩;{omega};.refine⟨g,d,rfl,y,λi x j u hx k=> ?_⟩;have m:i<xs.length:=(dm.1 hx).1;have A:j<sz:=(by have:=(dm.1 k).1;rw[s x (b0e hx)]at this;exact this);have b:=jr m A;have l:=f.cellAt (i*sz+j) b;have a:i*sz+j<z.length:=(by rw[f.1];exact b);rw[bq a]at l;refine⟨_,l,?_⟩;have:=t i x j u hx k;rwa [ag8 undef (bq a)]at this
theorem BoxRep.dimAt{E:Env}{w:World}{h:Value}{B:Box}{sz l:Nat}(b:BoxRep P E w h B)(hd:B.dim=some (sz,l))(a:0<l): ∃g c,h= .slice (some ⟨g,0,none⟩) l c/\l<=c:=by cases B<;>simp[Box.dim]at hd<;>obtain⟨rfl,rfl⟩:=hd;{obtain⟨g,c,h1,h2,_⟩:=b.cellAt a;exact⟨g,c,h1,h2⟩};{obtain⟨g,c,h1,h2,_⟩:=b.cellAtH a;exact⟨g,c,h1,h2⟩};.exact b.2 a
theorem SimW.asList{x:Ctx P}{s:St}{hv:Nat->Value}{w:World}(h:SimW x s hv w){n e sz:Nat}{xs:List LP}(f:s n=some (.arr e sz true xs)):RP (env x s hv w).pc (hv n) (.vs xs):=by
 have p:=h.box n _ f;have o:=p;obtain⟨h0,L,E,q,k,K⟩:=p;rcases b2i xs.length with D|y
 .have hxs:xs=[]:=b0u D;subst hxs;rcases E.2 with ⟨a,_⟩|⟨g,r,B,I,a,J,N,F,H,M,z⟩
  .rw[a];exact .vs (sz:=sz) (λ_ _=>undef) rfl (b0f _) Ad Ad Ad Ad
  .rw[a];exact .vs (sz:=sz) (λ_ _=>undef) rfl F Ad Ad Ad Ad
 .obtain⟨g,c,a,hc,hcell⟩:=o.cellAt y;rw[a];have b:=h.loc n _ g f (by rw[a];rfl);refine .vs (λi j=>(w.cell? ⟨g,i*sz+j,none⟩).getD undef) rfl hc q k (λ_=>⟨_,rfl,λi x j u hx d=> ?_⟩) λi x j u hx d=> ?_
  .obtain⟨v,hv1,hv2⟩:=hcell i x j u hx d;rw[fh,b1w];have t:i<xs.length:=(dm.1 hx).1
   have G:j<sz:=by
    have:=(dm.1 d).1;rw[q x (b0e hx)]at this;exact this
   refine⟨by rw[hv1];rfl,?_,λm C l A=> ?_⟩
   .rcases b with h1|h1
    .exact .inr (.inl h1)
    .exact .inr (.inr h1)
   .have:m=n:=h.inj m n C _ g l f A (by rw[a];rfl);subst this;rw[f]at l
    cases l
    exact jr t G
  .obtain⟨v,hv1,hv2⟩:=hcell i x j u hx d;rw[hv1];exact hv2
/- Operations on abstract values: the plain ones. -/
variable {P:Program}
abbrev ASt:=List (Nat×Box)
def ai:ASt->Nat->Option Box
 |[],_=>none
 |(m,B)::r,n=>if m=n then some B else ai r n
def app(s:St):ASt->St
 |[]=>s
 |(n,B)::r=>app (upd s n (some B)) r
def bsf(P:Program)(o:Oper)(ρ:Operand->PV)(s:St)(u:PV)(δ:ASt):Prop:=
 ∀(x:Ctx P) (a:Act) (hv:Nat->Value) (w:World),SimW x s hv w->(∀y∈o.op.operands,RV (env x s hv w) (a.eval y) (ρ y))->
  ∀(next:Act->World->Prop) (Q:Exit->Act->World->Prop),
   (∀v hv' w',SimW x (app s δ) hv' w'->Env.le (env x s hv w) (env x (app s δ) hv' w')->RV (env x (app s δ) hv' w') v u->next (a.put o.dst v) w')->o.wp P a w next Q
def LOp(P:Program)(o:Oper)(ρ:Operand->PV)(σ:ASt)(u:PV)(δ:ASt)(F:LN):Prop:=
 (∀p∈δ,p.1∈F)/\∀s:St,(∀n∈F,s n=ai σ n)->bsf P o ρ s u δ
abbrev KT:=PV->ASt->LN->Prop
variable {P:Program}{σ:ASt}{w:World}{o:Oper}{ρ:Operand->PV}{bytes d i len m n off sz tx:Nat}{v v':Value}{dst e ft src t:TypeId}{x:Ctx P}{xs ys:List LP}{f hv:Nat->Value}{s:St}{y z:Operand}{K:KT}{F a ns:LN}{u:PV}{cs ds us zs:LP}{E:Env}{B:Box}{b sh:Bool}{news:List Value}{l:LB}{k:IntKind}{q:Addr}{pc:Addr->Value->Prop}
section inv
theorem RV.int_inv{n:Int}(h:RV E v (.int k n)):v= .int k n:=A2
theorem RV.bool_inv(h:RV E v (.bool b)):v= .bool b:=A2
theorem RV.str_inv(h:RV E v (.str l)):v= .string ⟨l.toArray⟩:=A2
theorem RV.nils_inv(h:RV E v .nils):v= .slice none 0 0:=A2
theorem RV.nilp_inv(h:RV E v .nilp):v= .pointer none:=A2
theorem RV.nilf_inv(h:RV E v .nilf):v= .nilFunc:=A2
theorem RV.vs_inv(h:RV E v (.vs xs)):RP E.pc v (.vs xs):=by cases h with|pure h=>exact h
theorem RV.ptr_inv(h:RV E v (.ptr n off)):E.ptr n off v:=by cases h with|pure h=>cases h|ptr h=>exact h
theorem RV.os_inv{k:Nat}(h:RV E v (.os n k)):E.os n k v:=by cases h with|pure h=>cases h|os h=>exact h
theorem RV.oel_inv{k:Nat}(h:RV E v (.oel n k i off)):E.oel n k i off v:=by cases h with|pure h=>cases h|oel h=>exact h
theorem RV.osl_inv{k:Nat}(h:RV E v (.osl n k i)): ∃q c,v= .slice (some q) (k - i) c/\E.oel n k i 0 (.pointer (some q)):=by cases h with|pure h=>cases h|osl hv h=>exact⟨_,_,hv,h⟩
theorem RV.mh_inv(h:RV E v (.mh n)):E.mh n v:=by cases h with|pure h=>cases h|mh h=>exact h
theorem RV.oq_inv{k:Nat}(h:RV E v (.oq n k)):E.oq n k v:=by cases h with|pure h=>cases h|oq h=>exact h
theorem RV.oqe_inv{k:Nat}(h:RV E v (.oqe n k i sz off)): ∃v0,E.oq n k v0/\(∃q,v= .pointer (some q))/\∀b o m c,v0= .slice (some ⟨b,o,none⟩) m c->i<m->v= .pointer (some ⟨b,o+(i*sz+off),none⟩):=by cases h with|pure h=>cases h|oqe h h1 hq=>exact⟨_,h,h1,hq⟩
theorem RV.agg_inv(h:RV E v (.agg cs)): ∃vs:Array Value,v= .agg vs/\vs.size=cs.length/\∀i u,cs[i]? =some u->RV E (vs.getD i Go.undef) u:=by cases h with|pure h=>(cases h with|agg hl hh=>exact⟨_,rfl,hl,λi u a=> .pure (hh i u a)⟩)|agg hl hh=>exact⟨_,rfl,hl,hh⟩
theorem RV.tup_inv(h:RV E v (.tup cs)): ∃vs:Array Value,v= .tuple vs/\vs.size=cs.length/\∀i u,cs[i]? =some u->RV E (vs.getD i Go.undef) u:=by cases h with|pure h=>(cases h with|tup hl hh=>exact⟨_,rfl,hl,λi u a=> .pure (hh i u a)⟩)|tup hl hh=>exact⟨_,rfl,hl,hh⟩
theorem RV.oss_inv{k:Nat}(h:RV E v (.oss n k i m)): ∃q c,v= .slice (some q) m c/\E.oel n k i 0 (.pointer (some q)):=by cases h with|pure h=>cases h|oss hv h=>exact⟨_,_,hv,h⟩
theorem RV.ago_inv(h:RV E v (.ago cs)): ∃vs:Array Value,v= .agg vs/\vs.size=cs.length/\∀i u,cs[i]? =some u->RV E (vs.getD i Go.undef) u:=by cases h with|pure h=>cases h|ago hl hh=>exact⟨_,rfl,hl,hh⟩
theorem RV.fn_inv{f:FuncId}(h:RV E v (.fn f cs)): ∃vs:Array Value,v= .func (.func f) #[] vs/\vs.size=cs.length/\∀i u,cs[i]? =some u->RV E (vs.getD i Go.undef) u:=by cases h with|pure h=>cases h;exact⟨#[],rfl,rfl,Ad⟩|fn f hl hh=>exact⟨_,rfl,hl,hh⟩
theorem RV.el_inv(h:RV E v (.el cs)): ∃(q:Addr) (U:Nat->Value),v= .pointer (some q)/\(∀j u,cs[j]? =some u->E.pc (q.add j) (U j))/\∀j u,cs[j]? =some u->RP E.pc (U j) u:=by cases h with|pure h=>cases h|el U ha hr=>exact⟨_,U,rfl,ha,hr⟩
theorem RP.vs_inv(h:RP pc v (.vs xs)): ∃(a:Option Addr) (c sz:Nat) (U:Nat->Nat->Value),v= .slice a xs.length c/\xs.length<=c/\(∀x∈xs,x.length=sz)/\(∀x∈xs,x.all fy=true)/\
  (0<xs.length->∃ad,a=some ad/\∀i x j u,xs[i]? =some x->x[j]? =some u->pc (ad.add (i*sz+j)) (U i j))/\∀i x j u,xs[i]? =some x->x[j]? =some u->RP pc (U i j) u:=by cases h with|vs U hn hc hsz h1 ha hr=>subst hn;exact⟨_,_,_,U,rfl,hc,hsz,h1,ha,hr⟩
end inv
theorem RV.os_arr{k:Nat}(h:RV (env x s hv w) v (.os n k)){e:Nat}(hs:s n=some (.arr e sz sh xs)):
  (∃a c,v= .slice a k c)/\∃e sz sh xs,s n=some (.arr e sz sh xs)/\k<=xs.length/\(k=xs.length->v=hv n):=by obtain⟨f,B,j,l,b,d,g,i⟩:=h.os_inv;rw[hs]at b;cases b;simp only[Box.dim,b0c,b0t]at d;obtain⟨rfl,rfl⟩:=d;exact⟨f,e,sz,sh,xs,hs,g,i⟩
theorem RV.oel_arr{k:Nat}(h:RV (env x s hv w) v (.oel n k i off)){e:Nat}(hs:s n=some (.arr e sz sh xs)):
  (∃q,v= .pointer (some q))/\∃e sz sh xs,s n=some (.arr e sz sh xs)/\k<=xs.length/\(k=xs.length->i<k->∃b c,hv n= .slice (some ⟨b,0,none⟩) k c/\v= .pointer (some ⟨b,i*sz+off,none⟩)):=by obtain⟨f,B,m,l,a,d,g,j⟩:=h.oel_inv;rw[hs]at a;cases a;simp only[Box.dim,b0c,b0t]at d;obtain⟨rfl,rfl⟩:=d;exact⟨f,e,sz,sh,xs,hs,g,j⟩
def adf:Value->PV
 | .bool b=> .bool b
 | .int k n=> .int k n
 | .string s=> .str s.data.toList
 | .pointer none=> .nilp
 | .slice none 0 0=> .nils
 | .map none=> .nilm
 | .nilFunc=> .nilf
 | .nilIface=> .nili
 |_=> .undef
theorem ac5(E:Env)(v:Value):RV E v (adf v):=by unfold adf;split;{exact .pure (.bool _)};{exact .pure (.int _ _)};{rename_i s;exact .pure (RP.str s.data.toList)};{exact .pure .nilp};{exact .pure .nils};{exact .pure .nilm};{exact .pure .nilf};{exact .pure .nili};.exact .undef _
def dx(P:Program)(t:TypeId):Option Nat:=(P.info? t).map (·.size)
def bytesOf(P:Program)(t:TypeId):Option Nat:=(P.info? t).map (·.bytes)
def lp(P:Program)(t:TypeId):Option Bool:=(P.underlying t).map TypeDesc.isRow
def cw(P:Program)(t:TypeId):Option TypeId:=match P.underlying t with|some (.slice e)=>some e|_=>none
def aae(P:Program)(t:TypeId):Option (Nat×TypeId):=match P.underlying t with|some (.array n e)=>some (n,e)|_=>none
def qv(P:Program)(t:TypeId):Option IntKind:=match P.underlying t with|some (.int k)=>some k|_=>none
def bfg(P:Program)(t:TypeId)(f:Nat):Option (Nat×TypeId):=match P.underlying t with|some (.struct fs)=>(fs[f]?).map λx=>(x.offset,x.type)|_=>none
def az(P:Program)(t:TypeId):Option LP:=((P.info? t).bind (·.zero)).map λz=>z.cells.toList.map adf
theorem ka(h:lp P t=some b)(w:World):(isAgg t).run P w= .ok b w:=by unfold lp at h;cases hu:P.underlying t with|none=>rw[hu]at h;cases h|some d=>rw[hu]at h;simp only[b02,b0c]at h;subst h;unfold isAgg;rw[b0v,run_underlying hu w];cases d<;>simp[TypeDesc.isRow]
theorem eo(h:dx P t=some n)(w:World):(sizeOf t).run P w= .ok n w:=by unfold dx at h;cases hu:P.info? t with|none=>rw[hu]at h;cases h|some d=>rw[hu]at h;simp only[b02,b0c]at h;simp[sizeOf,typeInfo,hu,h]
theorem bx(h:cw P t=some e):P.underlying t=some (.slice e):=by unfold cw at h;split at h;{rename_i h1;rw[h1];simpa using h};.cases h
theorem ahn(h:aae P t=some (n,e)):P.underlying t=some (.array n e):=by unfold aae at h;split at h;{rename_i h1;rw[h1];simpa using h};.cases h
theorem ak6(h:qv P t=some k):P.underlying t=some (.int k):=by unfold qv at h;split at h;{rename_i h1;rw[h1];simpa using h};.cases h
theorem ar
  (h: ∀(s:St),(∀n∈F,s n=ai σ n)->∀(x:Ctx P) (a:Act) (hv:Nat->Value) (w:World),SimW x s hv w->(∀y∈o.op.operands,RV (env x s hv w) (a.eval y) (ρ y))->
   ∃v,(execOp a.eval o).run P w= .ok (.value v) w/\RV (env x s hv w) v u):LOp P o ρ σ u [] F:=by refine⟨Ad,λs hs x a hv w d b c Q e=> ?_⟩;obtain⟨v,f,g⟩:=h s hs x a hv w d b;unfold Oper.wp;rw[f,b1p];exact e v hv w d (Env.le.refl _) g
theorem aus(b:o.op= .move y\/o.op= .assign y):LOp P o ρ σ (ρ y) [] []:=by refine ar λs hs x a e w d c=>⟨a.eval y,?_,?_⟩;{rcases b with b|b<;>simp[execOp,b]};.exact c y (by rcases b with b|b<;>simp[b,Op.operands])
theorem bfi{c:Operand}(e:o.op= .pick c y z)(g:ρ c= .bool b):LOp P o ρ σ (if b then ρ y else ρ z) [] []:=by refine ar λs hs x a j w i d=>⟨if b then a.eval y else a.eval z,?_,?_⟩;{have h:=d c Dh;rw[g]at h;simp[execOp,e,h.bool_inv,asBool]};.have h1:=d y Dh;have f:=d z Dh;cases b<;>simp[h1,f]
theorem qy(f:o.op= .nilCheck y)(d:(∃n k,ρ y= .ptr n k)\/(∃cs,ρ y= .el cs)\/∃n k i off,ρ y= .oel n k i off):LOp P o ρ σ (ρ y) [] []:=by refine ar λs hs x a g w j c=>⟨a.eval y,?_,c y Bg⟩;have h:=c y Bg;rcases d with ⟨n,k,d⟩|⟨cs,d⟩|⟨n,k,i,off,d⟩;{rw[d]at h;obtain⟨_,b,_,e⟩:=h.ptr_inv;simp[execOp,f,e]};{rw[d]at h;obtain⟨q,U,e,_⟩:=h.el_inv;simp[execOp,f,e]};.rw[d]at h;obtain⟨⟨q,e⟩,_⟩:=h.oel_inv;simp[execOp,f,e]
theorem ap6(f:o.op= .extract y i)(l:ρ y= .tup us)(d:us[i]? =some u):LOp P o ρ σ u [] []:=by
 refine ar λs hs x a n w m b=> ?_;have h:=b y Bg;rw[l]at h;obtain⟨e,c,k,j⟩:=h.tup_inv;have g:i<e.size:=by rw[k];exact(dm.1 d).1
 refine⟨e.getD i undef,?_,j i u d⟩;simp[execOp,f,c,Instr.extract,g]
theorem Addr.add_assoc'(a:Addr)(i j:Nat):(a.add i).add j=a.add (i+j):=by unfold Addr.add;by_cases c:i=0<;>by_cases b:j=0<;>simp[c,b,b4u]
theorem uh{f:Nat}(h:bfg P t f=some (off,ft))(a:dx P ft=some (n+1))(q:Addr)(w:World):
  (Instr.fieldAt t (.pointer (some q)) f).run P w= .ok (.pointer (some (q.add off))) w:=by unfold bfg at h;split at h;{rename_i fs hu;cases hf:fs[f]? with|none=>rw[hf]at h;cases h|some fd=>rw[hf]at h;simp only[b02,b0c,b0t]at h;obtain⟨rfl,rfl⟩:=h;simp[Instr.fieldAt,run_underlying hu,hf,Instr.sureAddr,fieldPlace,eo a]};.cases h
theorem yv{f k:Nat}(d:o.op= .fieldAddr t y f)(i:ρ y= .ptr n k)
  (j:bfg P t f=some (off,ft)) (p:dx P ft=some (m+1)):LOp P o ρ σ (.ptr n (k+off)) [] []:=by refine ar λs hs x a r w q c=> ?_;have h:=c y B9;rw[i]at h;obtain⟨l,b,g,e⟩:=h.ptr_inv;refine⟨.pointer (some ⟨b,k+off,none⟩),?_,.ptr ⟨l,b,g,rfl⟩⟩;simp[execOp,d,e,uh j p,fh]
theorem z8{f:Nat}(d:o.op= .fieldAddr t y f)(k:ρ y= .el cs)
  (l:bfg P t f=some (off,ft)) (i:dx P ft=some (m+1)):LOp P o ρ σ (.el (cs.drop off)) [] []:=by refine ar λs hs x a p w r c=> ?_;have h:=c y B9;rw[k]at h;obtain⟨q,U,g,n,e⟩:=h.el_inv;refine⟨.pointer (some (q.add off)),?_,.el (λj=>U (off+j)) (λj u b=> ?_) λj u b=> ?_⟩;{simp[execOp,d,g,uh l i]};{rw[b1k]at b;rw[Addr.add_assoc'];exact n _ u b};.rw[b1k]at b;exact e _ u b
theorem o9{f k j:Nat}{l:Nat}
  (q:o.op= .fieldAddr t y f) (E:ρ y= .oel n k i j) (D:ai σ n=some B) (hd:B.dim=some (sz,l)) (z:k=l) (hi:i<k)
  (G:bfg P t f=some (off,ft)) (v:dx P ft=some (m+1)):LOp P o ρ σ (.oel n k i (j+off)) [] [n]:=by refine ar λs hs x a J w K g=> ?_;have h:=g y Eu;rw[E]at h;have e:s n=some B:=(by rw[hs n Ad,D]);obtain⟨_,H,F,I,p,d,A,C⟩:=h.oel_inv;rw[e]at p;cases p;rw[hd]at d;cases d;obtain⟨b,c,u,r⟩:=C z hi;refine⟨.pointer (some ⟨b,i*sz+(j+off),none⟩),?_,.oel ⟨⟨_,rfl⟩,B,sz,l,e,hd,A,λ_ _=>⟨b,c,u,rfl⟩⟩⟩;simp[execOp,q,r,uh G v,fh,b4u]
theorem lw(d:cw P t=some e)(a:dx P e=some sz)(ad:Addr)(n c:Nat)(k:IntKind)(i:Int)(h0:0<=i)(b:i<n)(w:World):
  (Instr.indexAt t (.slice (some ad) n c) (.int k i)).run P w= .ok (.pointer (some (ad.add (i.toNat*sz)))) w:=by simp[Instr.indexAt,run_underlying (bx d),asIntOf,eo a,h0,b]
theorem an9{i:Int}(m:o.op= .indexAddr t y z)(D:ρ y= .vs xs)
  (C:ρ z= .int k i) (E:cw P t=some e) (l:dx P e=some sz) (h0:0<=i) (r:i<xs.length) (d:(xs.getD i.toNat []).length=sz):LOp P o ρ σ (.el (xs.getD i.toNat [])) [] []:=by refine ar λs hs x a J w K b=> ?_;have h:=b y (by simp[m,Op.operands]);have q:=b z (by simp[m,Op.operands]);rw[D]at h;rw[C]at q;obtain⟨H,c,f,U,p,I,B,_,G,A⟩:=h.vs_inv.vs_inv;obtain⟨ad,rfl,F⟩:=G Aa;have v:i.toNat<xs.length:=Aa;have n:xs[i.toNat]? =some (xs.getD i.toNat []):=(by rw[bd,bq v];rfl);have:f=sz:=(by rw[<-B _ (b0e n),d]);subst this;refine⟨.pointer (some (ad.add (i.toNat*f))),?_,.el (λj=>U i.toNat j) (λj u g=> ?_) λj u g=>A _ _ j u n g⟩;{simp[execOp,m,p,q.int_inv,lw E l ad xs.length c k i h0 r]};.rw[Addr.add_assoc'];exact F _ _ j u n g
theorem zf{l:Nat}{i:Int}(q:o.op= .indexAddr t y z)(I:ρ y= .os n m)
  (H:ρ z= .int k i) (G:ai σ n=some B) (hd:B.dim=some (sz,l)) (v:m=l) (J:cw P t=some e) (p:dx P e=some sz) (h0:0<=i) (C:i<l):LOp P o ρ σ (.oel n m i.toNat 0) [] [n]:=by refine ar λs hs x a N w K b=> ?_;have h:=b y Eu;have u:=b z Eu;rw[I]at h;rw[H]at u;have d:s n=some B:=(by rw[hs n Ad,G]);obtain⟨_,L,D,O,A,f,F,E⟩:=h.os_inv;rw[d]at A;cases A;rw[hd]at f;cases f;have j:=E v;obtain⟨g,c,r,M⟩:=(K.box n _ d).dimAt hd Aa;refine⟨.pointer (some ⟨g,i.toNat*sz,none⟩),?_,.oel ⟨⟨_,rfl⟩,B,sz,l,d,hd,F,λ_ _=>⟨g,c,by rw[r,v],rfl⟩⟩⟩;simp[execOp,q,j,r,u.int_inv,lw J p ⟨g,0,none⟩ l c k i h0 C,fh]
theorem aje{i:Int}(f:o.op= .indexAddr t y z)(u:ρ y= .ptr n m)
  (r:ρ z= .int k i) (v:aae P t=some (len,e)) (d:dx P e=some sz) (h0:0<=i) (j:i<len):LOp P o ρ σ (.ptr n (m+i.toNat*sz)) [] []:=by refine ar λs hs x a A w B c=> ?_;have h:=c y Bg;have g:=c z Bg;rw[u]at h;rw[r]at g;obtain⟨q,b,p,l⟩:=h.ptr_inv;refine⟨.pointer (some ⟨b,m+i.toNat*sz,none⟩),?_,.ptr ⟨q,b,p,rfl⟩⟩;simp[execOp,f,l,g.int_inv,Instr.indexAt,run_underlying (ahn v),asIntOf,eo d,h0,j,Instr.sureAddr,fh]
theorem lc(l:List Value)(i:Nat):l.toArray.getD i undef=l.getD i undef:=by simp[b1c]
theorem fi(h:lp P t=some false)(a:w.cell? q=some v):(loadVar t q).run P w= .ok v w:=by simp[loadVar,ka h,a]
theorem gi(h:lp P t=some true)(hs:dx P t=some n)(a: ∀j,j<n->w.cell? (q.add j)=some (f j)):
  (loadVar t q).run P w= .ok (.agg ((List.range n).map f).toArray) w:=by simp[loadVar,ka h,eo hs,run_loadCells w q n f a]
theorem vu(b:n=cs.length)(h: ∀i u,cs[i]? =some u->RV E (f i) u):RV E (.agg ((List.range n).map f).toArray) (.agg cs):=by
 refine .agg Bf λi u a=> ?_;have c:i<n:=by rw[b];exact(dm.1 a).1
 rw[lc,bd,b0s,b2z c];exact h i u a
theorem ai3{h:Value}(k:BoxRep P E w h (.cells cs)): ∃b,h= .pointer (some ⟨b,0,none⟩)/\∀i u,cs[i]? =some u->∃v,w.cell? ⟨b,i,none⟩=some v/\RV E v u:=by
 obtain⟨b,t,a,d,e,j,f⟩:=k;refine⟨b,d,λi u c=>⟨a.getD i undef,?_,f i u c⟩⟩;have g:i<a.size:=by rw[j];exact(dm.1 c).1
 rw[cell_of_row w b i a t (0,0) e];simp[g]
theorem alh(j:o.op= .load t y)(r:ρ y= .ptr n off)
  (q:ai σ n=some (.cells cs)) (m:lp P t=some false) (k:cs[off]? =some u):LOp P o ρ σ u [] [n]:=by refine ar λs hs x a A w z e=> ?_;have h:=e y Bo;rw[r]at h;have f:s n=some (.cells cs):=(by rw[hs n Ad,q]);obtain⟨_,b,p,l⟩:=h.ptr_inv;obtain⟨B,d,c⟩:=ai3 (z.box n _ f);rw[p]at d;cases d;obtain⟨v,i,g⟩:=c off u k;refine⟨v,?_,g⟩;simp[execOp,j,l,Instr.loadAt,Instr.sureAddr,fi m i]
theorem ajd(q:o.op= .load t y)(E:ρ y= .ptr n off)
  (D:ai σ n=some (.cells cs)) (A:lp P t=some true) (C:dx P t=some m) (G:off+m<=cs.length):LOp P o ρ σ (.agg ((cs.drop off).take m)) [] [n]:=by refine ar λs hs x a H w F g=> ?_;have h:=g y Eu;rw[E]at h;have l:s n=some (.cells cs):=(by rw[hs n Ad,D]);obtain⟨_,b,B,z⟩:=h.ptr_inv;obtain⟨I,f,c⟩:=ai3 (F.box n _ l);rw[B]at f;cases f;have e: ∀j,j<m->w.cell? ((⟨b,off,none⟩:Addr).add j)=some ((w.cell? ⟨b,off+j,none⟩).getD undef):=λj J=>(by obtain⟨v,d,_⟩:=c (off+j) _ (bq Aa);rw[fh,d];rfl);refine⟨_,by simp only[execOp,q,z,Instr.loadAt,Instr.sureAddr,b0v,b1r,b0w,gi A C e];rfl,vu Ag λi u k=> ?_⟩;have r:i<m:=(by have:=(dm.1 k).1;simp at this;omega);rw[b04,if_pos r,b1k]at k;obtain⟨v,d,p⟩:=c (off+i) u k;rw[d];exact p
theorem asg(e:o.op= .load t y)(j:ρ y= .el cs)
  (f:lp P t=some false) (c:cs[0]? =some u):LOp P o ρ σ u [] []:=by refine ar λs hs x a l w m b=> ?_;have h:=b y Dh;rw[j]at h;obtain⟨q,U,i,k,g⟩:=h.el_inv;have d:=(k 0 u c).1;rw[Addr.add_zero']at d;refine⟨U 0,?_,.pure (g 0 u c)⟩;simp[execOp,e,i,Instr.loadAt,Instr.sureAddr,fi f d]
theorem aki(e:o.op= .load t y)(p:ρ y= .el cs)
  (g:lp P t=some true) (n:dx P t=some m) (r:m<=cs.length):LOp P o ρ σ (.agg (cs.take m)) [] []:=by refine ar λs hs x a z w A c=> ?_;have h:=c y Dh;rw[p]at h;obtain⟨q,U,l,v,k⟩:=h.el_inv;have b: ∀j,j<m->w.cell? (q.add j)=some (U j):=λj B=>(v j _ (bq Aa)).1;refine⟨_,by simp only[execOp,e,l,Instr.loadAt,Instr.sureAddr,b0v,b1r,b0w,gi g n b];rfl,vu Ag λi u d=> ?_⟩;have f:i<m:=(by have:=(dm.1 d).1;simp at this;omega);rw[b04,if_pos f]at d;exact .pure (k i u d)
theorem anr{k:Nat}{e:Nat}(r:o.op= .load t y)(I:ρ y= .oel n k i off)
  (H:ai σ n=some (.arr e sz sh xs)) (E:k=xs.length) (hi:i<k) (B:lp P t=some false) (z:(xs.getD i [])[off]? =some u):LOp P o ρ σ u [] [n]:=by refine ar λs hs x a M w K j=> ?_;have h:=j y Dd;rw[I]at h;have d:s n=some (.arr e sz sh xs):=(by rw[hs n Ad,H]);obtain⟨_,Q,L,D,G,p,O,F⟩:=h.oel_arr d;rw[d]at p;cases p;obtain⟨b,c,C,A⟩:=F E hi;obtain⟨g,N,q,_,f⟩:=(K.box n _ d).cellAt Aa;rw[C]at q;cases q;have J:xs[i]? =some (xs.getD i []):=Bw;obtain⟨v,m,l⟩:=f i _ off u J z;refine⟨v,?_,.pure l⟩;simp[execOp,r,A,Instr.loadAt,Instr.sureAddr,fi B m]
theorem ah4{k:Nat}{e:Nat}(D:o.op= .load t y)(J:ρ y= .oel n k i off)
  (I:ai σ n=some (.arr e sz sh xs)) (O:k=xs.length) (hi:i<k) (L:lp P t=some true) (G:dx P t=some m) (K:off+m<=(xs.getD i []).length):
  LOp P o ρ σ (.agg (((xs.getD i []).drop off).take m)) [] [n]:=by refine ar λs hs x a V w R q=> ?_;have h:=q y Ca;rw[J]at h;have f:s n=some (.arr e sz sh xs):=Dv;obtain⟨_,U,S,N,H,C,T,Q⟩:=h.oel_arr f;rw[f]at C;cases C;obtain⟨b,c,M,F⟩:=Q O hi;obtain⟨g,W,A,_,d⟩:=(R.box n _ f).cellAt Aa;rw[M]at A;cases A;have B:xs[i]? =some (xs.getD i []):=Bw;have p: ∀j,j<m->w.cell? ((⟨b,i*sz+off,none⟩:Addr).add j)=some ((w.cell? ⟨b,i*sz+(off+j),none⟩).getD undef):=λj E=>(by obtain⟨v,l,_⟩:=d i _ (off+j) _ B (bq Aa);rw[fh,b4u,l];rfl);refine⟨_,by simp only[execOp,D,F,Instr.loadAt,Instr.sureAddr,b0v,b1r,b0w,gi L G p];rfl,vu E6 λj u r=> ?_⟩;have E:j<m:=(by have:=(dm.1 r).1;rw[b0i]at this;omega);rw[b04,if_pos E,b1k]at r;obtain⟨v,l,z⟩:=d i _ (off+j) u B r;rw[l];exact .pure z
theorem ajo{k:Nat}{e:Nat}(z:o.op= .load t y)(H:ρ y= .oel n k i off)
  (G:ai σ n=some (.arh e sz xs)) (E:k=xs.length) (hi:i<k) (C:lp P t=some false) (A:(xs.getD i [])[off]? =some u):LOp P o ρ σ u [] [n]:=by refine ar λs hs x a N w J j=> ?_;have h:=j y (by simp[z,Op.operands]);rw[H]at h;have f:s n=some (.arh e sz xs):=(by rw[hs n Ad,G]);obtain⟨_,L,K,M,q,l,Q,F⟩:=h.oel_inv;rw[f]at q;cases q;cases l;obtain⟨b,c,D,B⟩:=F E hi;obtain⟨g,O,r,_,d⟩:=(J.box n _ f).cellAtH Aa;rw[D]at r;cases r;have I:xs[i]? =some (xs.getD i []):=Bw;obtain⟨v,p,m⟩:=d i _ off u I A;refine⟨v,?_,m⟩;simp[execOp,z,B,Instr.loadAt,Instr.sureAddr,fi C p]
theorem ae7{k:Nat}{e:Nat}(E:o.op= .load t y)(J:ρ y= .oel n k i off)
  (I:ai σ n=some (.arh e sz xs)) (N:k=xs.length) (hi:i<k) (L:lp P t=some true) (H:dx P t=some m) (K:off+m<=(xs.getD i []).length):
  LOp P o ρ σ (.agg (((xs.getD i []).drop off).take m)) [] [n]:=by
 refine ar λs hs x a V w Q p=> ?_;have h:=p y (by simp[E,Op.operands]);rw[J]at h;have q:s n=some (.arh e sz xs):=Dv
 obtain⟨_,T,R,U,D,r,S,O⟩:=h.oel_inv;rw[q]at D
 cases D
 cases r
 obtain⟨b,c,M,G⟩:=O N hi;obtain⟨g,W,B,_,d⟩:=(Q.box n _ q).cellAtH Aa;rw[M]at B
 cases B
 have C:xs[i]? =some (xs.getD i []):=Bw
 have l: ∀j,j<m->w.cell? ((⟨b,i*sz+off,none⟩:Addr).add j)=some ((w.cell? ⟨b,i*sz+(off+j),none⟩).getD undef):=λj F=>by
  obtain⟨v,f,_⟩:=d i _ (off+j) _ C (bq Aa);rw[fh,b4u,f];rfl
 refine⟨_,by simp only[execOp,E,G,Instr.loadAt,Instr.sureAddr,b0v,b1r,b0w,gi L H l];rfl,vu E6 λj u z=> ?_⟩
 have F:j<m:=by
  have:=(dm.1 z).1;rw[b0i]at this;omega
 rw[b04,if_pos F,b1k]at z;obtain⟨v,f,A⟩:=d i _ (off+j) u C z;rw[f];exact A
/- Operations on abstract values: numbers, strings, comparisons, conversions. -/
inductive CK where
 |int|str|bool
 deriving DecidableEq
def bef(P:Program)(t:TypeId):Option CK:=
 match P.underlying t with
 |some (.int _)=>some .int
 |some .string=>some .str
 |some .bool=>some .bool
 |_=>none
def s4(P:Program):Nat->List Field->Option (List CK)
 |_,[]=>some []
 |i,f::fs=>
  if f.name≠ "_" ∧f.offset=i then
   match bef P f.type,s4 P (i+1) fs with
   |some c,some r=>some (c::r)
   |_,_=>none
  else none
def oz(P:Program)(t:TypeId):Option (List CK):=
 match P.underlying t with
 |some (.struct fs)=>if P.stoodInHeld t=false/\P.eqGuardType P.depth t=false then s4 P 0 fs.toList else none
 |some (.array n e)=>if P.cellsOf e=1/\P.eqGuardType P.depth t=false/\(P.info? e).isSome=true then(bef P e).map (List.replicate n)else none
 |_=>none
def eqC:CK->PV->PV->Option Bool
 | .int,.int k a,.int k' b=>if k=k' then some (decide (a=b))else none
 | .str,.str a,.str b=>some (decide (a=b))
 | .bool,.bool a,.bool b=>some (decide (a=b))
 |_,_,_=>none
def ad9:List CK->LP->LP->Option Bool
 |[],[],[]=>some true
 |c::ks,x::xs,y::ys=>
  match eqC c x y,ad9 ks xs ys with
  |some a,some b=>some (a&&b)
  |_,_=>none
 |_,_,_=>none
theorem ua{α:Type} [DecidableEq α](a b:α):(a==b)=decide (a=b):=by by_cases h:a=b<;>simp[h]
theorem bp5(a b:LB):(a==b)=decide (a=b):=by rw[b3s];simp
theorem a4y{c:CK}{x y:PV}(e:bef P t=some c)(h:eqC c x y=some b)(hv:RV E v x)(a:RV E v' y)(d:Nat)(w:World):
  (Op.equalIn (d+1) t v v').run P w= .ok b w:=by unfold bef at e;(cases c<;>cases x<;>try (simp[eqC]at h;done));(all_goals cases y<;>try (simp[eqC]at h;done));{rw[hv.int_inv,a.int_inv];simp only[eqC]at h;split at h;{rename_i hk;subst hk;(split at e<;>try (simp at e;done));rename_i f;rw[run_equalIn_int w d t _ _ _ _ f,ua];simpa using h};.cases h};{rw[hv.str_inv,a.str_inv];simp only[eqC,b0c]at h;(split at e<;>try (simp at e;done));rename_i f;rw[run_equalIn_string w d t _ _ f];subst h;simp[b3p,bp5]};.rw[hv.bool_inv,a.bool_inv];simp only[eqC,b0c]at h;(split at e<;>try (simp at e;done));rename_i f;rw[run_equalIn_bool' w d t _ _ f,ua];simpa using h
theorem aa2{c:CK}(a:bef P t=some c):lp P t=some false:=by unfold bef at a;unfold lp;split at a<;>(try (simp at a;done))<;>rename_i b<;>rw[b]<;>rfl
theorem zr(d:Nat){xs e:Array Value}(hx: ∀i u,cs[i]? =some u->RV E (xs.getD i undef) u)(n: ∀i u,ds[i]? =some u->RV E (e.getD i undef) u)
  (p:xs.size=cs.length) (o:e.size=ds.length) (w:World): ∀(fs:List Field) (i:Nat) (ks:List CK) (b:Bool),s4 P i fs=some ks->ad9 ks (cs.drop i) (ds.drop i)=some b->
  (Op.eqFields (d+1) xs e fs).run P w= .ok b w
 |[],i,ks,b,hf,he=>by
  simp only[s4,b0c]at hf;subst hf;simp only[Op.eqFields,b1r];generalize cs.drop i=a at he;generalize ds.drop i=c at he
  cases a<;>cases c<;>simp[ad9]at he
  simp[he]
 |f::fs,i,ks,b,hf,he=>by
  simp only[s4]at hf;split at hf
  .rename_i hn
   cases h1:bef P f.type with
   |none=>rw[h1]at hf;simp at hf
   |some c=>
    cases h2:s4 P (i+1) fs with
    |none=>rw[h1,h2]at hf;simp at hf
    |some r=>
     rw[h1,h2]at hf;simp only[b0c]at hf;subst hf
     cases h3:cs.drop i with
     |nil=>rw[h3]at he;simp[ad9]at he
     |cons x cs'=>
      cases h4:ds.drop i with
      |nil=>rw[h3,h4]at he;simp[ad9]at he
      |cons y ds'=>
       have hci:cs[i]? =some x:=Db
       have g:ds[i]? =some y:=Da
       have h:cs.drop (i+1)=cs':=by rw[<-b4m,h3];simp
       have l:ds.drop (i+1)=ds':=by rw[<-b4m,h4];simp
       rw[h3,h4]at he;simp only[ad9]at he
       cases h5:eqC c x y with
       |none=>rw[h5]at he;simp at he
       |some a=>
        cases h6:ad9 r cs' ds' with
        |none=>rw[h5,h6]at he;simp at he
        |some b'=>
         rw[h5,h6]at he;simp only[b0c]at he;subst he;have k:i<xs.size:=by rw[p];exact(dm.1 hci).1
         have m:i<e.size:=by rw[o];exact(dm.1 g).1
         have t:(part f.type xs f.offset).run P w= .ok (xs.getD i undef) w:=by simp[part,ka (aa2 h1),hn.2,k]
         have s:(part f.type e f.offset).run P w= .ok (e.getD i undef) w:=by simp[part,ka (aa2 h1),hn.2,m]
         have he:=a4y h1 h5 (hx i x hci) (n i y g) d w;have q:=zr d hx n p o w fs (i+1) r b' h2 (by rw[h,l];exact h6);simp only[Op.eqFields,hn.1,ne_eq,not_false_iff,b4i,b0v,t,s,he,b0w,Sem.run_ite]
         cases a<;>simp[q]
  .cases hf
theorem zi(d:Nat){c:CK}(h:bef P e=some c){xs f:Array Value}(hx: ∀i u,cs[i]? =some u->RV E (xs.getD i undef) u)(p: ∀i u,ds[i]? =some u->RV E (f.getD i undef) u)
  (r:xs.size=cs.length) (q:f.size=ds.length) (w:World): ∀(k i:Nat) (b:Bool),ad9 (List.replicate k c) (cs.drop i) (ds.drop i)=some b->
  (Op.eqItems (d+1) e 1 xs f (List.range' i k)).run P w= .ok b w
 |0,i,b,he=>by
  generalize cs.drop i=a at he;generalize ds.drop i=c at he
  cases a<;>cases c<;>simp[ad9]at he
  simp[he,Op.eqItems]
 |k+1,i,b,he=>by
  rw[b7q]at he
  cases h3:cs.drop i with
  |nil=>rw[h3]at he;simp[ad9]at he
  |cons x cs'=>
   cases h4:ds.drop i with
   |nil=>rw[h3,h4]at he;simp[ad9]at he
   |cons y ds'=>
    have hci:cs[i]? =some x:=Db
    have g:ds[i]? =some y:=Da
    have l:cs.drop (i+1)=cs':=by rw[<-b4m,h3];simp
    have n:ds.drop (i+1)=ds':=by rw[<-b4m,h4];simp
    rw[h3,h4]at he;simp only[ad9]at he
    cases h5:eqC c x y with
    |none=>rw[h5]at he;simp at he
    |some a=>
     cases h6:ad9 (List.replicate k c) cs' ds' with
     |none=>rw[h5,h6]at he;simp at he
     |some b'=>
      rw[h5,h6]at he;simp only[b0c]at he;subst he;have m:i<xs.size:=by rw[r];exact(dm.1 hci).1
      have o:i<f.size:=by rw[q];exact(dm.1 g).1
      have v:(part e xs (i*1)).run P w= .ok (xs.getD i undef) w:=by simp[part,ka (aa2 h),m]
      have t:(part e f (i*1)).run P w= .ok (f.getD i undef) w:=by simp[part,ka (aa2 h),o]
      have he:=a4y h h5 (hx i x hci) (p i y g) d w;have s:=zi d h hx p r q w k (i+1) b' (by rw[l,n];exact h6);rw[List.range'_succ];simp only[Op.eqItems,b0v,v,t,he,b0w,Sem.run_ite]
      cases a<;>simp[s]
theorem aln{l:List CK}(a:oz P t=some l)(h:ad9 l cs ds=some b)(hv:RV E v (.agg cs))(k:RV E v' (.agg ds))
  (x y:Operand) (w:World):(do eqGuard .eql t x y v v';binOp .eql t v v').run P w= .ok (.bool b) w/\(do eqGuard .neq t x y v v';binOp .neq t v v').run P w= .ok (.bool (!b)) w:=by obtain⟨d,rfl,p,hx⟩:=hv.agg_inv;obtain⟨f,rfl,o,m⟩:=k.agg_inv;unfold oz at a;split at a;{rename_i fs hu;split at a;{rename_i hh;have i:P.fieldsOf t=fs:=(by unfold Program.fieldsOf;rw[hu]);have j:=zr (P:=P) 9998 hx m p o w fs.toList 0 l b a An;have g:(Op.equalIn 10000 t (.agg d) (.agg f)).run P w= .ok b w:=(by rw[run_equalIn_struct w 9999 t d f (by rw[i];exact hu) hh.1,i];exact j);constructor;{simp only[b0v,run_eqGuard_agg w _ t x y d f hh.2,b0w,run_eql_struct,g]};.simp only[b0v,run_eqGuard_agg w _ t x y d f hh.2,b0w,run_neq_struct,g]};.cases a};{rename_i n e hu;split at a;{rename_i hh;cases hc:bef P e with|none=>rw[hc]at a;cases a|some c=>rw[hc]at a;simp only[b02,b0c]at a;subst a;obtain⟨r,q⟩:=b1y.1 hh.2.2;have j:=zi (P:=P) 9998 hc hx m p o w n 0 b An;have g:(Op.equalIn 10000 t (.agg d) (.agg f)).run P w= .ok b w:=(by rw[run_equalIn_array w 9999 d f hu q,hh.1,b7j];exact j);constructor;{simp only[b0v,run_eqGuard_agg w _ t x y d f hh.2.1,b0w,run_eql_struct,g]};.simp only[b0v,run_eqGuard_agg w _ t x y d f hh.2.1,b0w,run_neq_struct,g]};.cases a};.cases a
def jf(P:Program)(op:BinOp)(t:TypeId)(u v:PV)(K:PV->Prop):Prop:=
 match u,v with
 | .int k a,.int k' b=>
  match op with
  | .shl=>0<=b/\K (.int k (k.wrap (a*2^min b.toNat k.bits)))
  | .shr=>0<=b/\K (.int k (a.fdiv (2^min b.toNat k.bits)))
  | .add=>k=k'/\K (.int k (k.wrap (a+b)))
  | .sub=>k=k'/\K (.int k (k.wrap (a - b)))
  | .mul=>k=k'/\K (.int k (k.wrap (a*b)))
  | .quo=>k=k'/\b≠0/\K (.int k (k.wrap (a.tdiv b)))
  | .rem=>k=k'/\b≠0/\K (.int k (a.tmod b))
  | .and| .or| .xor| .andNot=>k=k'/\K (.int k (bits op k a b))
  | .eql=>k=k'/\K (.bool (decide (a=b)))
  | .neq=>k=k'/\K (.bool (decide (a≠b)))
  | .lss=>k=k'/\K (.bool (decide (a<b)))
  | .leq=>k=k'/\K (.bool (decide (a<=b)))
  | .gtr=>k=k'/\K (.bool (decide (b<a)))
  | .geq=>k=k'/\K (.bool (decide (b<=a)))
 | .bool a,.bool b=>
  match op with
  | .eql=>(P.underlying t=some .bool)/\K (.bool (decide (a=b)))
  | .neq=>(P.underlying t=some .bool)/\K (.bool (decide (a≠b)))
  |_=>False
 | .str a,.str b=>
  match op with
  | .add=>a.length+b.length<=4611686018427387904/\K (.str (a++b))
  | .eql=>K (.bool (decide (a=b)))
  | .neq=>K (.bool (decide (a≠b)))
  | .lss=>K (.bool (Op.bytesLess a b))
  | .leq=>K (.bool (Op.bytesLess a b||decide (a=b)))
  | .gtr=>K (.bool (!(Op.bytesLess a b||decide (a=b))))
  | .geq=>K (.bool (!Op.bytesLess a b))
  |_=>False
 | .agg cs,.agg ds=>
  match oz P t with
  |some ks=>
   match ad9 ks cs ds with
   |some b=>(match op with| .eql=>K (.bool b)| .neq=>K (.bool (!b))|_=>False)
   |none=>False
  |none=>False
 | .sn b,.nils=>(cw P t).isSome=true/\(match op with| .eql=>K (.bool b)| .neq=>K (.bool (!b))|_=>False)
 | .nils,.nils=>(cw P t).isSome=true/\(match op with| .eql=>K (.bool true)| .neq=>K (.bool false)|_=>False)
 | .vs xs,.nils=>((cw P t).isSome=true/\0<xs.length)/\(match op with| .eql=>K (.bool false)| .neq=>K (.bool true)|_=>False)
 |_,_=>False
theorem n4(l:LB):(⟨l.toArray⟩:ByteArray).size=l.length:=by simp[ByteArray.size]
theorem a78(a b:LB):(⟨a.toArray⟩++⟨b.toArray⟩:ByteArray)=⟨(a++b).toArray⟩:=by apply ByteArray.ext;simp[ByteArray.data_append]
theorem a9k(h:RV E v (.sn b)): ∃a n c,v= .slice a n c/\a.isNone=b:=by
 cases h with
 |pure h=>cases h with
  |sn b c h=>exact⟨_,_,_,rfl,h⟩
theorem baw(h:RV E v (.vs xs))(h0:0<xs.length): ∃a n c,v= .slice a n c/\a.isNone=false:=by obtain⟨a,c,f,U,d,_,_,_,b,_⟩:=h.vs_inv.vs_inv;obtain⟨ad,e,_⟩:=b h0;exact⟨a,xs.length,c,d,Fl⟩
theorem abt(i:cw P t=some e)(h: ∃a n c,v= .slice a n c/\a.isNone=b)(g:v'= .slice none 0 0)(x y:Operand)(w:World):
  (do eqGuard .eql t x y v v';binOp .eql t v v').run P w= .ok (.bool b) w/\(do eqGuard .neq t x y v v';binOp .neq t v v').run P w= .ok (.bool (!b)) w:=by obtain⟨a,n,c,rfl,f⟩:=h;subst g;have d:(Op.equal t (.slice a n c) (.slice none 0 0)).run P w= .ok b w:=(by unfold Op.equal Op.maxDepth;rw[Op.equalIn];rw[b0v,run_underlying (bx i),b0w];cases a with|none=>simp only;simp at f;simp[f]|some q=>simp only;simp at f;simp[f]);constructor;{have:eqGuard .eql t x y (.slice a n c) (.slice none 0 0)=pure ():=(by simp[eqGuard]);rw[this,pure_bind];show(do pure (Value.bool (<-Op.equal t (.slice a n c) (.slice none 0 0)))).run P w=_;rw[b0v,d];rfl};.have:eqGuard .neq t x y (.slice a n c) (.slice none 0 0)=pure ():=(by simp[eqGuard]);rw[this,pure_bind];show(do pure (Value.bool (!(<-Op.equal t (.slice a n c) (.slice none 0 0))))).run P w=_;rw[b0v,d];rfl
theorem aq6{j:BinOp}{B:TypeId}(A:o.op= .binOp j t y z B){K:PV->Prop}(h:jf P j t (ρ y) (ρ z) K):
  ∃u,LOp P o ρ σ u [] []/\K u:=by
 have l: ∀(u:PV),(∀(E:Env) (v c:Value),RV E v (ρ y)->RV E c (ρ z)->∀w,∃r,(do eqGuard j t y z v c;binOp j t v c).run P w= .ok r w/\RV E r u)->LOp P o ρ σ u [] []:=λu n=>by refine ar λs hs x a C w D m=> ?_;obtain⟨r,d,i⟩:=n _ _ _ (m y Di) (m z Di) w;refine⟨r,?_,i⟩;simp only[execOp,A];rw[b0v,d];rfl
 unfold jf at h;split at h
 .rename_i k a k' b hy hz
  have fin: ∀r,(∀v c w,v= .int k a->c= .int k' b->(binOp j t v c).run P w= .ok r w)->∀u,(∀E,RV E r u)->LOp P o ρ σ u [] []:=λr p u n=>
   l u λE v c d i w=>by rw[hy]at d;rw[hz]at i;refine⟨r,?_,n E⟩;rw[d.int_inv,eqGuard_at_int,b0v,b1r,b0w];exact p _ _ w rfl i.int_inv
  cases j<;>simp only at h
  case shl=>exact⟨_,fin (.int k (k.wrap (a*2^min b.toNat k.bits))) (by rintro _ _ w rfl rfl;have:=h.1;simp only[binOp_shl,Op.shift];rw[if_neg Aa];rfl) _ (λE=> .pure (.int _ _)),h.2⟩
  case shr=>exact⟨_,fin (.int k (a.fdiv (2^min b.toNat k.bits))) (by rintro _ _ w rfl rfl;have:=h.1;simp only[binOp_shr,Op.shift];rw[if_neg Aa];rfl) _ (λE=> .pure (.int _ _)),h.2⟩
  case quo=>obtain⟨rfl,h0,h⟩:=h;exact⟨_,fin _ (by rintro _ _ w rfl rfl;simp only[binOp_quo,Op.intDiv];rw[if_neg h0];rfl) _ (λE=> .pure (.int _ _)),h⟩
  case rem=>obtain⟨rfl,h0,h⟩:=h;exact⟨_,fin _ (by rintro _ _ w rfl rfl;simp only[binOp_rem,Op.intDiv];rw[if_neg h0];rfl) _ (λE=> .pure (.int _ _)),h⟩
  case add=>obtain⟨rfl,h⟩:=h;exact⟨_,fin _ (by rintro _ _ w rfl rfl;simp only[binOp_add];rfl) _ (λE=> .pure (.int _ _)),h⟩
  case sub=>obtain⟨rfl,h⟩:=h;exact⟨_,fin _ (by rintro _ _ w rfl rfl;simp only[binOp_sub];rfl) _ (λE=> .pure (.int _ _)),h⟩
  case mul=>obtain⟨rfl,h⟩:=h;exact⟨_,fin _ (by rintro _ _ w rfl rfl;simp only[binOp_mul];rfl) _ (λE=> .pure (.int _ _)),h⟩
  case and=>obtain⟨rfl,h⟩:=h;exact⟨_,fin _ (by rintro _ _ w rfl rfl;simp only[binOp_and];rfl) _ (λE=> .pure (.int _ _)),h⟩
  case or=>obtain⟨rfl,h⟩:=h;exact⟨_,fin _ (by rintro _ _ w rfl rfl;simp only[binOp_or];rfl) _ (λE=> .pure (.int _ _)),h⟩
  case xor=>obtain⟨rfl,h⟩:=h;exact⟨_,fin _ (by rintro _ _ w rfl rfl;simp only[binOp_xor];rfl) _ (λE=> .pure (.int _ _)),h⟩
  case andNot=>obtain⟨rfl,h⟩:=h;exact⟨_,fin _ (by rintro _ _ w rfl rfl;simp only[binOp_andNot];rfl) _ (λE=> .pure (.int _ _)),h⟩
  case eql=>obtain⟨rfl,h⟩:=h;exact⟨_,fin (.bool (decide (a=b))) (by rintro _ _ w rfl rfl;simp only[binOp_eql];rw[ua];rfl) _ (λE=> .pure (.bool _)),h⟩
  case neq=>obtain⟨rfl,h⟩:=h;exact⟨_,fin (.bool (decide (a≠b))) (by rintro _ _ w rfl rfl;simp only[binOp_neq,bne];rw[ua];simp) _ (λE=> .pure (.bool _)),h⟩
  case lss=>obtain⟨rfl,h⟩:=h;exact⟨_,fin (.bool (decide (a<b))) (by rintro _ _ w rfl rfl;simp only[binOp_lss];rfl) _ (λE=> .pure (.bool _)),h⟩
  case leq=>obtain⟨rfl,h⟩:=h;exact⟨_,fin (.bool (decide (a<=b))) (by rintro _ _ w rfl rfl;simp only[binOp_leq];rfl) _ (λE=> .pure (.bool _)),h⟩
  case gtr=>obtain⟨rfl,h⟩:=h;exact⟨_,fin (.bool (decide (b<a))) (by rintro _ _ w rfl rfl;simp only[binOp_gtr];rfl) _ (λE=> .pure (.bool _)),h⟩
  case geq=>obtain⟨rfl,h⟩:=h;exact⟨_,fin (.bool (decide (b<=a))) (by rintro _ _ w rfl rfl;simp only[binOp_geq];rfl) _ (λE=> .pure (.bool _)),h⟩
 .rename_i a b hy hz
  have fin: ∀r,(∀v c w,v= .bool a->c= .bool b->(binOp j t v c).run P w= .ok r w)->∀u,(∀E,RV E r u)->LOp P o ρ σ u [] []:=λr p u n=>
   l u λE v c d i w=>by rw[hy]at d;rw[hz]at i;refine⟨r,?_,n E⟩;rw[d.bool_inv,eqGuard_at_bool,b0v,b1r,b0w];exact p _ _ w rfl i.bool_inv
  cases j<;>simp only at h
  case eql=>exact⟨_,fin (.bool (decide (a=b))) (by rintro _ _ w rfl rfl;simp only[binOp,Op.equal,Op.maxDepth];rw[b0v,run_equalIn_bool' w 9999 t a b h.1,ua];rfl) _ (λE=> .pure (.bool _)),h.2⟩
  case neq=>exact⟨_,fin (.bool (decide (a≠b))) (by rintro _ _ w rfl rfl;simp only[binOp,Op.equal,Op.maxDepth];rw[b0v,run_equalIn_bool' w 9999 t a b h.1,ua];simp) _ (λE=> .pure (.bool _)),h.2⟩
 .rename_i a b hy hz
  have fin: ∀r,(∀v c w,v= .string ⟨a.toArray⟩->c= .string ⟨b.toArray⟩->(binOp j t v c).run P w= .ok r w)->∀u,(∀E,RV E r u)->LOp P o ρ σ u [] []:=λr p u n=>
   l u λE v c d i w=>by rw[hy]at d;rw[hz]at i;refine⟨r,?_,n E⟩;rw[d.str_inv,eqGuard_at_string,b0v,b1r,b0w];exact p _ _ w rfl i.str_inv
  cases j<;>simp only at h
  case add=>exact⟨_,fin (.string ⟨(a++b).toArray⟩) (by
   rintro _ _ w rfl rfl;simp only[binOp,Op.stringOp];rw[if_neg (by rw[n4,n4];have:=h.1;simp;omega),a78];rfl) _ (λE=> .pure (.str _)),h.2⟩
  case eql=>exact⟨_,fin (.bool (decide (a=b))) Az _ (λE=> .pure (.bool _)),h⟩
  case neq=>exact⟨_,fin (.bool (decide (a≠b))) Az _ (λE=> .pure (.bool _)),h⟩
  case lss=>exact⟨_,fin (.bool (Op.bytesLess a b)) Ea _ (λE=> .pure (.bool _)),h⟩
  case leq=>exact⟨_,fin (.bool (Op.bytesLess a b||decide (a=b))) Az _ (λE=> .pure (.bool _)),h⟩
  case gtr=>exact⟨_,fin (.bool (!(Op.bytesLess a b||decide (a=b)))) Az _ (λE=> .pure (.bool _)),h⟩
  case geq=>exact⟨_,fin (.bool (!Op.bytesLess a b)) Ea _ (λE=> .pure (.bool _)),h⟩
 .rename_i cs ds hy hz;split at h;{rename_i ks hk;split at h;{rename_i b hb;cases j<;>simp only at h;(case eql=>exact⟨_,l (.bool b) λE v c d i w=>⟨_,(aln hk hb (hy ▸ d) (hz ▸ i) y z w).1,.pure (.bool _)⟩,h⟩);case neq=>exact⟨_,l (.bool (!b)) λE v c d i w=>⟨_,(aln hk hb (hy ▸ d) (hz ▸ i) y z w).2,.pure (.bool _)⟩,h⟩};.exact h.elim};.exact h.elim
 .rename_i b hy hz;obtain⟨d,h⟩:=h;obtain⟨e,q⟩:=b1y.1 d;have fin:=λ(E:Env) (v c:Value) (f:RV E v (ρ y)) (g:RV E c (ρ z)) (w:World)=>(by rw[hy]at f;rw[hz]at g;exact abt q (a9k f) g.nils_inv y z w);cases j<;>simp only at h;(case eql=>exact⟨_,l (.bool b) λE v c f g w=>⟨_,(fin E v c f g w).1,.pure (.bool _)⟩,h⟩);case neq=>exact⟨_,l (.bool (!b)) λE v c f g w=>⟨_,(fin E v c f g w).2,.pure (.bool _)⟩,h⟩
 .rename_i hy hz;obtain⟨d,h⟩:=h;obtain⟨e,q⟩:=b1y.1 d;have fin:=λ(E:Env) (v c:Value) (f:RV E v (ρ y)) (g:RV E c (ρ z)) (w:World)=>(by rw[hy]at f;rw[hz]at g;exact abt q (b:=true) ⟨none,0,0,f.nils_inv,rfl⟩ g.nils_inv y z w);cases j<;>simp only at h;(case eql=>exact⟨_,l (.bool true) λE v c f g w=>⟨_,(fin E v c f g w).1,.pure (.bool _)⟩,h⟩);case neq=>exact⟨_,l (.bool false) λE v c f g w=>⟨_,(fin E v c f g w).2,.pure (.bool _)⟩,h⟩
 .rename_i xs hy hz;obtain⟨⟨d,h0⟩,h⟩:=h;obtain⟨e,q⟩:=b1y.1 d;have fin:=λ(E:Env) (v c:Value) (f:RV E v (ρ y)) (g:RV E c (ρ z)) (w:World)=>(by rw[hy]at f;rw[hz]at g;exact abt q (baw f h0) g.nils_inv y z w);cases j<;>simp only at h;(case eql=>exact⟨_,l (.bool false) λE v c f g w=>⟨_,(fin E v c f g w).1,.pure (.bool _)⟩,h⟩);case neq=>exact⟨_,l (.bool true) λE v c f g w=>⟨_,(fin E v c f g w).2,.pure (.bool _)⟩,h⟩
 .exact h.elim
def bj3(op:UnOp)(u:PV)(K:PV->Prop):Prop:=
 match op,u with
 | .not,.bool b=>K (.bool (!b))
 | .neg,.int k n=>K (.int k (k.wrap (0 - n)))
 | .xor,.int k n=>K (.int k (bits .xor k (if k.signed then -1 else k.max) n))
 |_,_=>False
theorem ax2{f:UnOp}(g:o.op= .unOp f t y){K:PV->Prop}(h:bj3 f (ρ y) K): ∃u,LOp P o ρ σ u [] []/\K u:=by
 have e: ∀(u:PV),(∀(E:Env) (v:Value),RV E v (ρ y)->∀w,∃r,(Op.unary f v).run P w= .ok r w/\RV E r u)->LOp P o ρ σ u [] []:=λu i=>by
  refine ar λs hs x a l w m d=> ?_;obtain⟨r,c,j⟩:=i _ _ (d y Ao) w;refine⟨r,?_,j⟩;simp only[execOp,g];rw[b0v,c];rfl
 unfold bj3 at h;split at h
 .rename_i b hy;exact⟨_,e (.bool (!b)) λE v c w=>⟨_,by rw[hy]at c;rw[c.bool_inv];rfl,.pure (.bool _)⟩,h⟩
 .rename_i k n hy;exact⟨_,e _ λE v c w=>⟨_,by rw[hy]at c;rw[c.int_inv];rfl,.pure (.int _ _)⟩,h⟩
 .rename_i k n hy;exact⟨_,e _ λE v c w=>⟨_,by rw[hy]at c;rw[c.int_inv];rfl,.pure (.int _ _)⟩,h⟩
 .exact h.elim
/- append onto a slice of the call's own: what becomes of the world. -/
structure Src(P:Program)(w:World)(size:Nat)(x:Value)(m:Nat)(news:List Value):Prop where
 len: ∀w',(Builtin.lenOf x).run P w'= .ok m w'
 cells:(Builtin.firstCells size m x).run P w= .ok news.toArray w
 cells':(Builtin.firstCells size m x).run P w.drew= .ok news.toArray w.drew
 length:news.length=m*size
 one: ∀u∈news,u.oneCell'=true
theorem mi(t i ty e:TypeId)(d:TypeDesc)(size:Nat)(l:P.underlying t=some (.slice e))(g:P.underlying i=some d)(hd: ∀k,d≠ .int k)
  (f:dx P e=some size) (a:Option Addr) (n c:Nat) (x:Value) (m:Nat) (w:World) (b: ∀w',(Builtin.lenOf x).run P w'= .ok m w') (h:n+m<=c):
  (Builtin.append_ #[t,i] ty #[.slice a n c,x]).run P w=
   ((Builtin.firstCells size m x).run P w).andThen λnew w=>((match a with|some a=>storeCells (a.add (n*size)) new.toList|none=>pure ()).run P w).andThen λ_ w=> .ok (.slice a (n+m) c) w:=by have j:(match d with| .int _=>true|_=>false)=false:=E0;simp only[Builtin.append_,b3t,b1n,b21,b0v,run_underlying l,b0w,eo f,run_underlying g,b1r,b12,b25,b];rw[if_pos h];cases a<;>simp[b0v]
theorem ms(t o ty e:TypeId)(d:TypeDesc)(i:TypeInfo)(size:Nat)(q:P.underlying t=some (.slice e))(l:P.underlying o=some d)(hd: ∀k,d≠ .int k)
  (j:dx P e=some size) (hi:P.info? e=some i) (a:Option Addr) (n c:Nat) (x:Value) (m:Nat) (w:World) (b: ∀w',(Builtin.lenOf x).run P w'= .ok m w') (h: ¬n+m<=c)
  (g: ¬((9223372036854775807:Int)<(n:Int)+(m:Int))) (f: ¬(Builtin.nextslicecap (n+m) c*i.bytes>2^48)):
  (Builtin.append_ #[t,o] ty #[.slice a n c,x]).run P w=
   ((do
    let newCap<-choose (.appendCap (n+m) c e)
    askRoom (newCap*i.bytes)
    let old<-Builtin.firstCells size n (.slice a n c)
    let new<-Builtin.firstCells size m x
    let rest:=Builtin.zeroCells (<-zeroValue e).cells (newCap - (n+m))
    pure (.slice (some (<-newRow e (old++new++rest))) (n+m) newCap):Sem Value).run P w):=by
 have p:(match d with| .int _=>true|_=>false)=false:=E0
 simp only[Builtin.append_,b3t,b1n,b21,b0v,run_underlying q,b0w,eo j,run_underlying l,b1r,b12,b25,b];rw[if_neg h];simp[b0v,typeInfo,hi,g,f]
theorem dj(P:Program)(g o:Nat)(t:TypeId)(b:Nat×Nat): ∀(vs:List Value) (i:Nat) (cur:Array Value) (w:World),w.heap[g]? =some (.cells cur t b)->(b.2=0\/cur.size<=b.1)->o+i+vs.length<=cur.size->(∀v∈vs,v.oneCell'=true)->
  (storeCells ⟨g,o,none⟩ vs i).run P w= .ok () (w.setRow g (cur.toList.take (o+i)++vs++cur.toList.drop (o+i+vs.length)).toArray)
 |[],i,cur,w,hg,_,_,_=>by
  simp only[storeCells,b00,b0r,b13,b3u,Array.toArray_toList];rw[setRow_self w g cur t b hg]
  rfl
 |v::rest,i,cur,w,hg,hfz,hl,h1=>by
  have hi:o+i<cur.size:=by simp at hl;omega
  have d:(⟨g,o,none⟩:Addr).add i=⟨g,o+i,none⟩:=Dr
  have a:w.cell? ⟨g,o+i,none⟩=some cur[o+i]:=by simp[World.cell?,hg,hi]
  have c:w.frozen? ⟨g,o+i,none⟩=false:=by
   obtain⟨k,j⟩:=b;simp only[World.frozen?,hg,b64,b1d];simp only at hfz;omega
  have f:(store ((⟨g,o,none⟩:Addr).add i) v).run P w= .ok () (w.setRow g (cur.setIfInBounds (o+i) v)):=by
   rw[d,run_store P w _ v _ (h1 v Ad),a];simp[c,setCell_eq_setRow w g (o+i) cur t b v hg]
  have h:=dj P g o t b rest (i+1) (cur.setIfInBounds (o+i) v) (w.setRow g (cur.setIfInBounds (o+i) v)) (setRow_heap w g cur _ t _ hg) (by simpa using hfz) (by simp at hl ⊢;omega) (λx hx=>h1 x Bx);simp only[storeCells,b0v,f,b0w,h,setRow_setRow];congr 3;have e:=list_seg_step cur.toList (o+i) v rest (by simp at hl ⊢;omega);simpa [Array.toList_setIfInBounds,b4u] using e
theorem av8(t X ty e:TypeId)(d:TypeDesc)(i:TypeInfo)(z:Value)(size bytes:Nat)(ht:P.underlying t=some (.slice e))(N:P.underlying X=some d)(hd: ∀k,d≠ .int k)
  (hi:P.info? e=some i) (hz:i.zero=some z) (G:i.size=size) (a4:i.bytes=bytes) (a1:z.cells.size=size) (a7:0<size) (a2:0<bytes)
  (v:Value) (n:Nat) (xs:List Value) (p:OwnM P w e size v n xs) (x:Value) (m:Nat) (l:List Value) (hs:Src P w size x m l) (q:(n+m)*bytes<=140737488355328):
  ∃v' w',(Builtin.append_ #[t,X] ty #[v,x]).run P w= .ok v' w'/\OwnM P w' e size v' (n+m) (xs++l)/\w.grownBy w' v.ownBlock/\
   (blk v'=blk v\/∃b,blk v'=some b/\w.heap.size<=b)/\(m=0->v'=v)/\
   ∀b j u,blk v=some b->j<n*size->w.cell? ⟨b,j,none⟩=some u->w'.cell? ⟨b,j,none⟩=some u:=by
 subst G;subst a4;have a9:n+m<=140737488355328:=b1l (b3e _ a2) q;have a5:n+m<=maxLen:=C4
 have M:dx P e=some i.size:=by simp[dx,hi]
 have R:=λa n c=>mi t X ty e d i.size ht N hd M a n c x m w hs.len;have W:=λa n c=>ms t X ty e d i i.size ht N hd M hi a n c x m w hs.len;have s:(xs++l).length=(n+m)*i.size:=by rw[b0a,p.1,hs.length,b2a]
 have D: ∀(old:Nat),old<n+m->∀(L:Option Nat),
   OwnM P (w.drew.alloc (.cells (xs.toArray++l.toArray++Builtin.zeroCells z.cells (grownCap w (n+m) old e - (n+m))) e)) e i.size
    (.slice (some ⟨w.heap.size,0,none⟩) (n+m) (grownCap w (n+m) old e)) (n+m) (xs++l)/\
   w.grownBy (w.drew.alloc (.cells (xs.toArray++l.toArray++Builtin.zeroCells z.cells (grownCap w (n+m) old e - (n+m))) e)) L:=by
  intro old ho L;have F:=grownCap_ge w (n+m) old e;have H:grownCap w (n+m) old e<=maxLen:=grownCap_le_maxLen w (n+m) old e a5;refine⟨⟨s,.inr ⟨w.heap.size,_,_,(0,0),rfl,.inl rfl,heap_alloc_new w.drew _,F,H,?_,?_⟩⟩,⟨rfl,rfl,rfl,Ad,λk hk _=>heap_alloc_old w.drew _ k hk⟩⟩
  .simp only[b6l,b2h,size_zeroCells,a1,p.1,hs.length,<-b2a];congr 1;omega
  .simp only[b56,b0m];rw[<-b0m,<-s];exact b5o
 have a6: ¬(((n+m:Nat):Int)>IntKind.i64.max/\(false=true\/i.bytes=0)):=Ag
 rcases p.2 with ⟨rfl,rfl⟩|⟨g,r,o,fz,rfl,O,Q,a3,H,T,J⟩
 .have hx:xs=[]:=b0u (by simpa using p.1);subst hx;by_cases hm:m=0;{subst hm;have hn:l=[]:=b0u Ef;subst hn;refine⟨.slice none 0 0,w,?_,OwnM.nil P w e i.size,⟨rfl,rfl,rfl,b0f _,λ_ _ _=>rfl⟩,.inl rfl,λ_=>rfl,λb j u I=>by cases I⟩;have K:=hs.cells;rw[R _ _ _ (b0f _),K];rfl};.have hg0: ¬(0+m<=0):=Aa;have y:=D 0 Aa (Value.ownBlock (.slice none 0 0));simp only[b1w]at y;have C:=growslice_fits (need:=m) (old:=0) (bytes:=i.bytes) Aa (by simpa using q);have B:=hs.cells';refine⟨_,_,?_,by simpa using y.1,y.2,.inr ⟨w.heap.size,rfl,b0f _⟩,λh=>absurd h hm,λb j u I=>by cases I⟩;have A: ¬(Builtin.nextslicecap m 0*i.bytes>2^48):=Av;have E: ¬((9223372036854775807:Int)<(m:Int)):=Aa;rw[W _ _ _ hg0 Aa (by simpa using A)];generalize Builtin.firstCells i.size m x=f at B ⊢;simp[E,A,typeInfo,zeroValue,hi,hz,Builtin.firstCells,Question.forced,newRow,grownCap,B]
 .by_cases hroom:n+m<=r
  .have C:n*i.size+l.length<=o.size:=(by rw[hs.length,T,<-b2a];exact b08 _ hroom);have V:=dj P g (n*i.size) e fz l 0 o w Q (tz O) (by simpa using C) hs.one;simp only[b13]at V;refine⟨.slice (some ⟨g,0,none⟩) (n+m) r,_,?_,⟨s,.inr ⟨g,r,_,fz,rfl,?_,setRow_heap w g o (o.toList.take (n*i.size)++l++o.toList.drop (n*i.size+l.length)).toArray e _ Q,hroom,H,?_,?_⟩⟩,⟨rfl,rfl,rfl,Ad,λk _ hk=>setRow_other w g k _ (λe=>hk (by simp[Value.ownBlock,e]))⟩,.inl rfl,λh=>by subst h;rfl,λb j u I Y K=> ?_⟩;{rw[R _ _ _ hroom,hs.cells];simp[fh,V]};{have he:(o.toList.take (n*i.size)++l++o.toList.drop (n*i.size+l.length)).toArray.size=o.size:=(by simp only[b2h,b0a,b0i,b1b,b28];omega);rw[he];exact O};{simp only[b2h,b0a,b0i,b1b,b28];omega};{rw[J,<-s];exact b5o};.have:g=b:=(by simpa [blk] using I);subst this;rw[cell_setRow_same w g j o _ e _ Q];rw[cell_of_row w g j o e _ Q]at K;have Z:j<(o.toList.take (n*i.size)).length:=(by rw[b0i,b28,T];have:=b08 i.size a3;omega);simp only[b3t];rw[b0m,b09 Z,b04,if_pos Y];simpa using K
  .have F: ¬(n+m<=r):=hroom;have y:=D r Aa (Value.ownBlock (.slice (some ⟨g,0,none⟩) n r));have C:=growslice_fits (need:=n+m) (old:=r) (bytes:=i.bytes) Aa q;have B:=hs.cells'
   have S:(loadCells (⟨g,0,none⟩:Addr) (n*i.size)).run P w.drew= .ok xs.toArray w.drew:=by
    have:=run_loadCells_list (P:=P) w.drew ⟨g,0,none⟩ xs (λj u hu=>by
     have U:(⟨g,0,none⟩:Addr).add j=⟨g,j,none⟩:=Dr
     rw[U];have Y:j<n*i.size:=by rw[<-p.1];exact(dm.1 hu).1
     exact(p.cellAt j Y).trans hu)
    rwa [p.1]at this
   refine⟨_,_,?_,y.1,y.2,.inr ⟨w.heap.size,rfl,b0f _⟩,λh=>Aa,λb j u I Y K=> ?_⟩
   .have A: ¬(Builtin.nextslicecap (n+m) r*i.bytes>2^48):=Av;have E: ¬((9223372036854775807:Int)<(n:Int)+(m:Int)):=Aa;rw[W _ _ _ F E A];generalize Builtin.firstCells i.size m x=f at B ⊢;simp[E,A,typeInfo,zeroValue,hi,hz,Builtin.firstCells,Question.forced,newRow,grownCap,S,B,b4q];rw[<-b4q];simp
   .have:g=b:=(by simpa [blk] using I);subst this;have a0:g<w.heap.size:=(b03.1 Q).1;rw[World.cell?_alloc_lt w.drew _ _ a0];exact K
theorem apn(t v ty e:TypeId)(d:TypeDesc)(i:TypeInfo)(z:Value)(size bytes:Nat)(L:P.underlying t=some (.slice e))(C:P.underlying v=some d)(hd: ∀k,d≠ .int k)
  (hi:P.info? e=some i) (J:i.zero=some z) (l:i.size=size) (D:i.bytes=bytes) (B:z.cells.size=size) (E:0<bytes)
  (a:Option Addr) (n:Nat) (xs:List Value) (h0:Src P w size (.slice a n n) n xs) (x:Value) (m:Nat) (M:0<m) (c:List Value) (hs:Src P w size x m c) (h:(n+m)*bytes<=140737488355328):
  ∃v' w',(Builtin.append_ #[t,v] ty #[.slice a n n,x]).run P w= .ok v' w'/\OwnM P w' e size v' (n+m) (xs++c)/\w.grownBy w' none/\∃b,blk v'=some b/\w.heap.size<=b:=by subst l;subst D;have K:n+m<=140737488355328:=b1l (b3e _ E) h;have G:n+m<=maxLen:=C4;have A:dx P e=some i.size:=(by simp[dx,hi]);have F:=ms t v ty e d i i.size L C hd A hi a n n x m w hs.len;have j:(xs++c).length=(n+m)*i.size:=(by rw[b0a,h0.length,hs.length,b2a]);have u:=grownCap_ge w (n+m) n e;have s:grownCap w (n+m) n e<=maxLen:=grownCap_le_maxLen w (n+m) n e G;have y: ¬(n+m<=n):=Aa;have H:=growslice_fits (need:=n+m) (old:=n) (bytes:=i.bytes) Aa h;have p:=h0.cells';have q:=hs.cells';have o: ¬(Builtin.nextslicecap (n+m) n*i.bytes>2^48):=Av;have r: ¬((9223372036854775807:Int)<(n:Int)+(m:Int)):=Aa;refine⟨.slice (some ⟨w.heap.size,0,none⟩) (n+m) (grownCap w (n+m) n e),w.drew.alloc (.cells (xs.toArray++c.toArray++Builtin.zeroCells z.cells (grownCap w (n+m) n e - (n+m))) e),?_,⟨j,.inr ⟨w.heap.size,_,_,(0,0),rfl,.inl rfl,heap_alloc_new w.drew _,u,s,?_,?_⟩⟩,⟨rfl,rfl,rfl,Ad,λk I _=>heap_alloc_old w.drew _ k I⟩,w.heap.size,rfl,b0f _⟩;{rw[F y r o];generalize Builtin.firstCells i.size m x=f at q ⊢;generalize Builtin.firstCells i.size n (.slice a n n)=g at p ⊢;simp[r,o,typeInfo,zeroValue,hi,J,Question.forced,newRow,grownCap,p,q];rw[<-b4q];simp};{simp only[b6l,b2h,size_zeroCells,B,h0.length,hs.length,<-b2a];congr 1;omega};.simp only[b56,b0m];rw[<-b0m,<-j];exact b5o
theorem alk(t f ty e:TypeId)(d:TypeDesc)(size:Nat)(i:P.underlying t=some (.slice e))(g:P.underlying f=some d)(hd: ∀k,d≠ .int k)
  (c:dx P e=some size) (a:Option Addr) (n:Nat) (x:Value) (b:List Value) (hs:Src P w size x 0 b):
  (Builtin.append_ #[t,f] ty #[.slice a n n,x]).run P w= .ok (.slice a n n) w:=by
 have h:b=[]:=b0u Ef;subst h;rw[mi t f ty e d size i g hd c a n n x 0 w hs.len (b0f _),hs.cells]
 cases a<;>simp[storeCells]
/- Operations on abstract values: conversions, lengths, parts of slices, new memory, stores, append. -/
def pur(σ:ASt):PV->Option (PV×LN)
 | .os n k=>match ai σ n with
  |some (.arr _ _ _ xs)=>if k=xs.length then some (.vs xs,[n])else none
  |_=>none
 | .nils=>some (.vs [],[])
 | .sn _=>some (.vs [],[])
 | .bool b=>some (.bool b,[])
 | .int k n=>some (.int k n,[])
 | .str l=>some (.str l,[])
 | .vs xs=>some (.vs xs,[])
 | .nilp=>some (.nilp,[])
 | .nilf=>some (.nilf,[])
 | .nili=>some (.nili,[])
 | .nilm=>some (.nilm,[])
 | .ifc t u=>some (.ifc t u,[])
 | .fn f []=>some (.fn f [],[])
 |_=>none
def lg(σ:ASt):LP->Option (LP×LN)
 |[]=>some ([],[])
 |u::us=>match pur σ u,lg σ us with
  |some (v,a),some (vs,b)=>some (v::vs,a++b)
  |_,_=>none
def a8(s:St)(ns:LN):St:=λm=>if m∈ns then(s m).map Box.share else s m
def ej(σ:ASt)(ns:LN):ASt:=ns.map λn=>(n,((ai σ n).getD (.cells [])).share)
theorem rt{σ:ASt}: ∀{ns:LN} {s:St},(∀n∈ns,∃B,s n=some B/\(some B=ai σ n\/some B=(ai σ n).map Box.share))->app s (ej σ ns)=a8 s ns
 |[],s,_=>by funext m;simp[ej,app,a8]
 |n::ns,s,h=>by
  obtain⟨B,hB,hB'⟩:=h n Ad;have hsh: ∀C:Box,C.share.share=C.share:=λC=>by cases C<;>rfl
  have hn: ∃C,ai σ n=some C/\(B=C\/B=C.share):=by
   rcases hB' with b|b
   .exact⟨B,b.symm,.inl rfl⟩
   .cases hq:ai σ n with
    |none=>rw[hq]at b;cases b
    |some C=>rw[hq]at b;exact⟨C,rfl,.inr A0⟩
  obtain⟨C,e,c⟩:=hn;have d:C.share=B.share:=by rcases c with rfl|rfl;rfl;exact(hsh C).symm
  have f:=rt (σ:=σ) (ns:=ns) (s:=upd s n (some C.share)) (λm g=>by
   by_cases a:m=n
   .subst a;exact⟨C.share,Ad,.inr Fl⟩
   .rw[ak _ _ a];exact h m Ew)
  simp only[ej,b07,app,e,b1o];rw[show(ns.map λn=>(n,((ai σ n).getD (.cells [])).share))=ej σ ns from rfl,f];funext m;simp only[a8,b0p];by_cases a:m=n
  .subst a;simp[hB,d,hsh]
  .simp[a,ak]
theorem em(s:St)(ns:LN)(n:Nat):a8 s ns n=s n\/a8 s ns n=(s n).map Box.share:=by unfold a8;split;{exact .inr rfl};.exact .inl rfl
theorem f9{o:PV}(h:SimW x s hv w)(hs: ∀n∈a,s n=ai σ n)(g:pur σ u=some (o,a))(C: ∀n∈a,n∈ns)
  (d:RV (env x s hv w) v u):RP (env x (a8 s ns) hv w).pc v o:=by
 have A:=(h.shared (em s ns)).2;have j: ∀{r:PV},RP (env x s hv w).pc v r->RP (env x (a8 s ns) hv w).pc v r:=λh=>h.mono A.pc
 cases u<;>simp only[pur]at g<;>(try (cases g;done))
 case bool b=>cases g;rw[d.bool_inv];exact .bool b
 case int k n=>cases g;rw[d.int_inv];exact .int k n
 case str l=>cases g;rw[d.str_inv];exact .str l
 case nils=>cases g;rw[d.nils_inv];exact .vs (sz:=0) (λ_ _=>undef) rfl (b0f _) Ad Ad Ad Ad
 case sn b=>
  cases g
  cases d with
  |pure h=>cases h with
   |sn b c h=>exact .vs (sz:=0) (λ_ _=>undef) rfl (b0k _) Ad Ad Ad Ad
 case vs xs=>cases g;exact j d.vs_inv
 case nilp=>cases g;rw[d.nilp_inv];exact .nilp
 case nilf=>cases g;rw[d.nilf_inv];exact .nilf
 case nili=>cases g;cases d with|pure h=>exact j h
 case nilm=>cases g;cases d with|pure h=>exact j h
 case ifc t u=>cases g;cases d with|pure h=>exact j h
 case fn f cs=>cases cs with|cons=>cases g|nil=>cases g;obtain⟨vs,rfl,y,_⟩:=d.fn_inv;have:vs= #[]:=(by simpa using y);subst this;exact .fn f
 case os n k=>split at g;{rename_i e sz sh xs hf;split at g;{rename_i hk;simp only[b0c,b0t]at g;obtain⟨rfl,rfl⟩:=g;obtain⟨_,E,B,p,z,m,D,q⟩:=d.os_arr ((hs n Ad).trans hf);have i:=hs n Ad;rw[hf,m]at i;cases i;rw[q hk];exact(h.shared (em s ns)).1.asList (e:=e) (sz:=sz) (by simp[a8,C n Ad,m,Box.share])};.cases g};.cases g
theorem ew(h:SimW x s hv w): ∀{us us':LP} {a:LN},(∀n∈a,s n=ai σ n)->lg σ us=some (us',a)->(∀n∈a,n∈ns)->
  us'.length=us.length/\∀(i:Nat) (u u':PV),us[i]? =some u->us'[i]? =some u'->∀v,RV (env x s hv w) v u->RP (env x (a8 s ns) hv w).pc v u'
 |[],us',a,_,hu,_=>by cases hu;simp
 |u::us,us',a,hs,hu,ha=>by
  simp only[lg]at hu
  cases h1:pur σ u with
  |none=>rw[h1]at hu;cases hu
  |some p=>
   cases h2:lg σ us with
   |none=>rw[h1,h2]at hu;cases hu
   |some q=>
    obtain⟨p1,p2⟩:=p;obtain⟨k,j⟩:=q;rw[h1,h2]at hu;simp only[b0c,b0t]at hu;obtain⟨rfl,rfl⟩:=hu;obtain⟨d,f⟩:=ew h (us:=us) (us':=k) (a:=j) (λn b=>hs n Bf) h2 (λn b=>ha n Bf);refine⟨Bi,λi r g e c v hv=> ?_⟩
    cases i with
    |zero=>
     simp at e c;subst e c
     exact f9 h (λn b=>hs n Bf) h1 (λn b=>ha n Bf) hv
    |succ i=>exact f i r g A5 Au v hv
theorem ra{b:PV}(h:pur σ u=some (b,a)): ∀n∈a,∃B,ai σ n=some B:=by cases u<;>simp only[pur]at h<;>(try (cases h;done))<;>(try (simp only[b0c,b0t]at h;obtain⟨_,rfl⟩:=h;simp;done));(case fn f cs=>cases cs<;>simp only[pur]at h<;>cases h;simp);case os n k=>split at h;{rename_i hf;split at h;{simp only[b0c,b0t]at h;obtain⟨_,rfl⟩:=h;simp[hf]};.cases h};.cases h
theorem mb: ∀{us us':LP} {a:LN},lg σ us=some (us',a)->∀n∈a,∃B,ai σ n=some B
 |[],us',a,h=>by cases h;simp
 |u::us,us',a,h=>by
  simp only[lg]at h
  cases h1:pur σ u with
  |none=>rw[h1]at h;cases h
  |some p=>
   cases h2:lg σ us with
   |none=>rw[h1,h2]at h;cases h
   |some q=>
    rw[h1,h2]at h;simp only[b0c,b0t]at h;obtain⟨_,rfl⟩:=h;intro n b;rcases b0j.1 b with b|b
    .exact ra h1 n b
    .exact mb h2 n b
def je(P:Program)(t:TypeId):Bool:=match P.underlying t with|some .string=>true|_=>false
def m6(P:Program)(t:TypeId):Bool:=match cw P t with|some e=>qv P e==some .u8|_=>false
def kz(P:Program)(t:TypeId):Bool:=(P.underlying t).isSome
def cz(l:LB):List LP:=l.map λb=>[PV.int .u8 (b.toNat:Int)]
theorem jd(h:je P t=true):P.underlying t=some .string:=by unfold je at h;split at h;{assumption};.cases h
theorem yi(h:m6 P t=true): ∃e,P.underlying t=some (.slice e)/\P.underlying e=some (.int .u8):=by unfold m6 at h;split at h;{rename_i e he;exact⟨e,bx he,ak6 An⟩};.cases h
def v7(P:Program)(src dst:TypeId)(σ:ASt)(u:PV)(K:KT):Prop:=
 match u with
 | .int _ n=>match qv P dst with
  |some k'=>kz P src=true/\K (.int k' (k'.wrap n)) [] []
  |none=>False
 | .str l=>if je P dst=true then kz P src=true/\K (.str l) [] []else je P src=true/\m6 P dst=true/\K (.vs (cz l)) [] []
 | .vs xs=>m6 P src=true/\je P dst=true/\∃l,xs=cz l/\K (.str l) [] []
 | .nils=>m6 P src=true/\je P dst=true/\K (.str []) [] []
 | .os n k=>match ai σ n with
  |some (.arr _ _ _ xs)=>k=xs.length/\m6 P src=true/\je P dst=true/\∃l,xs=cz l/\K (.str l) [] [n]
  |_=>False
 |_=>False
theorem SimW.anon(h:SimW x s hv w)(o:Obj)(k:Nat):SimW x s hv ((w.drewN k).alloc o)/\Env.le (env x s hv w) (env x s hv ((w.drewN k).alloc o)):=by have c: ∀b,b<w.heap.size->((w.drewN k).alloc o).heap[b]? =w.heap[b]?:=λb d=>heap_alloc_old (w.drewN k) o b d;have g:Env.le (env x s hv w) (env x s hv ((w.drewN k).alloc o)):=qh (λa v f=>⟨(b2y (c a.block f.lt)).trans f.1,f.2⟩) λn B e=>⟨B,e,Box.keep_refl _ _⟩;exact⟨h.step rfl rfl rfl (by simp[World.drewN]) g (λ_ i=>i) (λb d _=>c b (b24 d h.size)) λn B e=> .inl ⟨e,rfl,λb d=>c b (h.blk_lt e d)⟩,g⟩
theorem abv(hs:m6 P src=true)(hd:je P dst=true)(hv:RP E.pc v (.vs (cz l)))(p: ∀a v,E.pc a v->w.cell? a=some v):
  (convert src dst v).run P w= .ok (.string ⟨l.toArray⟩) w:=by obtain⟨e,g,i⟩:=yi hs;obtain⟨a,c,r,U,rfl,s,f,_,u,m⟩:=hv.vs_inv;have b:(cz l).length=l.length:=Bz;rw[b]at s ⊢;rcases b2i l.length with h0|h0;{have:l=[]:=b0u h0;subst this;have n:=run_convert_bytes_string (P:=P) w src dst e a 0 c g i (jd hd);simp only[b0r];rw[n];cases a with|none=>rfl|some a=>simp[Conv.bytesToString,loadCells,loadCellsFrom];rfl};.obtain⟨ad,rfl,hA'⟩:=u (by rw[b];exact h0);have d:r=1:=(by have o:[PV.int .u8 ((l[0]'h0).toNat:Int)]∈cz l:=(by simp only[cz,b0z];exact⟨l[0],b1g _,rfl⟩);have:=f _ o;simpa using this.symm);subst d;refine run_convert_bytes_back (P:=P) w src dst e ad c l g i (jd hd) λj t=> ?_;have hx:(cz l)[j]? =some [PV.int .u8 (l[j].toNat:Int)]:=(by simp[cz,bq t]);have k:=p _ _ (hA' j _ 0 _ hx rfl);have h:=m j _ 0 _ hx rfl;simp only[b3f,b13]at k;rw[k];generalize U j 0=q at h;cases h;rfl
theorem zk(g:o.op= .convert src dst y)(h:v7 P src dst σ (ρ y) K):
  ∃u δ F,LOp P o ρ σ u δ F/\K u δ F:=by unfold v7 at h;split at h;{rename_i k n hy;cases H:qv P dst with|none=>rw[H]at h;exact h.elim|some k'=>rw[H]at h;refine⟨_,_,_,ar λs hs x a z w p c=> ?_,h.2⟩;have f:=c y Ao;rw[hy]at f;obtain⟨d,M⟩:=b1y.1 h.1;exact⟨.int k' (k'.wrap n),by simp[execOp,g,f.int_inv,convert,run_underlying M,run_underlying (ak6 H),Conv.intToInt],.pure (.int _ _)⟩};{rename_i l hy;split at h;{rename_i M;refine⟨_,_,_,ar λs hs x a z w p c=> ?_,h.2⟩;have f:=c y Ao;rw[hy]at f;obtain⟨d,C⟩:=b1y.1 h.1;exact⟨.string ⟨l.toArray⟩,by simp[execOp,g,f.str_inv,convert,run_underlying C,run_underlying (jd M)],.pure (.str _)⟩};.obtain⟨t,q,A⟩:=h;refine⟨_,_,_,⟨Ad,λs hs x a z w p c R Q U=> ?_⟩,A⟩;have f:=c y Ao;rw[hy]at f;obtain⟨e,L,O⟩:=yi q;have G:=run_bytes_of_string (P:=P) w src dst e ⟨l.toArray⟩ (jd t) L O;have S:=p.anon (.cells (bytesRow ⟨l.toArray⟩ (grownCap w (ByteArray.size ⟨l.toArray⟩) 0 e)) e ((bytesRow ⟨l.toArray⟩ (grownCap w (ByteArray.size ⟨l.toArray⟩) 0 e)).size,(bytesRow ⟨l.toArray⟩ (grownCap w (ByteArray.size ⟨l.toArray⟩) 0 e)).size+1)) 1;unfold Oper.wp;simp only[execOp,g,f.str_inv,b0v,G,b0w,b1r];rw[b1p];refine U _ z _ S.1 S.2 (.pure ?_);have D:=grownCap_ge w (ByteArray.size ⟨l.toArray⟩) 0 e;rw[n4]at D ⊢;refine .vs (sz:=1) (λi _=> .int .u8 ((l.getD i 0).toNat:Int)) Bz D Bz (by simp[cz,fy]) (λ_=>⟨_,rfl,λi r j u G E=> ?_⟩) λi r j u G E=> ?_;{obtain⟨b,hb,rfl⟩: ∃b,l[i]? =some b/\[PV.int .u8 (b.toNat:Int)]=r:=(by simpa [cz] using G);have N:j=0:=(by have:=(dm.1 E).1;simp at this;exact this);subst N;have I:i<l.length:=(dm.1 hb).1;rw[fh];simp only[b3f,b13,b1w];refine⟨?_,.inr (.inl ?_),λn B T J=> ?_⟩;{rw[cell_of_row _ w.heap.size i _ e _ (heap_alloc_new w.drew _)];rw[ag8 0 hb];simp[bytesRow,Array.getElem?_append,I,(dm.1 hb).2]};{exact p.size};.have:=p.blk_lt T J;exact absurd this (b7y _)};.obtain⟨b,hb,rfl⟩: ∃b,l[i]? =some b/\[PV.int .u8 (b.toNat:Int)]=r:=(by simpa [cz] using G);have N:j=0:=(by have:=(dm.1 E).1;simp at this;exact this);subst N;simp at E;subst E;rw[ag8 0 hb];exact .int _ _};{rename_i xs hy;obtain⟨t,q,l,rfl,A⟩:=h;refine⟨_,_,_,ar λs hs x a z w p c=> ?_,A⟩;have f:=c y Ao;rw[hy]at f;exact⟨.string ⟨l.toArray⟩,by simp only[execOp,g];rw[b0v,abv t q f.vs_inv (λa v m=>m.1)];rfl,.pure (.str _)⟩};{rename_i hy;obtain⟨t,q,A⟩:=h;refine⟨_,_,_,ar λs hs x a z w p c=> ?_,A⟩;have f:=c y Ao;rw[hy]at f;have m:RP (env x s z w).pc (.slice none 0 0) (.vs (cz [])):= .vs (sz:=1) (λ_ _=>undef) rfl (b0f _) Bz Bz Ad Bz;exact⟨.string ⟨([]:LB).toArray⟩,by simp only[execOp,g,f.nils_inv];rw[b0v,abv t q m (λa v m=>m.1)];rfl,.pure (.str _)⟩};{rename_i n k hy;split at h;{rename_i e sz sh xs hf;obtain⟨H,t,q,l,rfl,A⟩:=h;refine⟨_,_,_,ar λs hs x a z w p c=> ?_,A⟩;have f:=c y Ao;rw[hy]at f;have m:=f9 (ns:=[n]) p hs (by simp[pur,hf,H]:pur σ (.os n k)=some (.vs (cz l),[n])) Ad f;exact⟨.string ⟨l.toArray⟩,by simp only[execOp,g];rw[b0v,abv t q m (λa v m=>m.1)];rfl,.pure (.str _)⟩};.exact h.elim};.exact h.elim
def ay(P:Program)(t:TypeId):Bool:=(cw P t).isSome
def xu(P:Program)(t:TypeId)(σ:ASt)(u:PV)(K:KT):Prop:=
 match u with
 | .str l=>je P t=true/\K (.int .i64 l.length) [] []
 | .vs xs=>ay P t=true/\K (.int .i64 xs.length) [] []
 | .nils=>ay P t=true/\K (.int .i64 0) [] []
 | .sn _=>ay P t=true/\K (.int .i64 0) [] []
 | .os n k=>match ai σ n with
  |some (.arr _ _ _ xs)=>k=xs.length/\ay P t=true/\K (.int .i64 k) [] [n]
  |some (.arh _ _ xs)=>k=xs.length/\ay P t=true/\K (.int .i64 k) [] [n]
  |_=>False
 | .osl _ k i=>ay P t=true/\K (.int .i64 ((k - i:Nat):Int)) [] []
 | .oq n k=>match ai σ n with
  |some (.arq _ _ k' xs)=>k=k'/\ay P t=true/\K (.int .i64 xs.length) [] [n]
  |_=>False
 |_=>match aae P t with
  |some (n,_)=>K (.int .i64 n) [] []
  |none=>False
theorem jh{ty:TypeId}(h:ay P t=true)(a:Option Addr)(n c:Nat)(w:World):(Builtin.len_ #[t] ty #[.slice a n c]).run P w= .ok (.int .i64 n) w:=by obtain⟨e,b⟩:=b1y.1 h;simp[Builtin.len_,run_underlying (bx b),goInt]
theorem bnw(b:SimW x s hv w){k:Nat}(h:RV (env x s hv w) v (.os n k)){e:Nat}(hs:s n=some (.arr e sz sh xs))(d:k=xs.length):
  ∃a c,v= .slice a k c:=h.os_inv.1
theorem ap5(M:o.op= .call {callee:= .builtin .len,args:= #[y],argTypes:= #[t]})(h:xu P t σ (ρ y) K):
  ∃u δ F,LOp P o ρ σ u δ F/\K u δ F:=by
 have m: ∀(u:PV) (F:LN),(∀(s:St),(∀n∈F,s n=ai σ n)->∀(x:Ctx P) f w v,SimW x s f w->RV (env x s f w) v (ρ y)->∃r,(Builtin.len_ #[t] o.type #[v]).run P w= .ok r w/\RV (env x s f w) r u)->LOp P o ρ σ u [] F:=λu F R=>by refine ar λs hs x a f w j C=> ?_;obtain⟨r,z,A⟩:=R s hs x f w _ j (C y (by simp[M,Op.operands,Call.operands]));refine⟨r,?_,A⟩;simp[execOp,M,resolve,invoke,builtin,z]
 unfold xu at h;split at h
 .rename_i l hy;exact⟨_,_,_,m _ _ λs hs x f w v j d=>⟨_,by rw[hy]at d;rw[d.str_inv];simp[Builtin.len_,run_underlying (jd h.1),goInt,n4],.pure (.int _ _)⟩,h.2⟩
 .rename_i xs hy;refine⟨_,_,_,m _ _ λs hs x f w v j d=> ?_,h.2⟩;rw[hy]at d;obtain⟨a,c,H,U,rfl,_⟩:=d.vs_inv.vs_inv;exact⟨_,jh h.1 a xs.length c w,.pure (.int _ _)⟩
 .rename_i hy;refine⟨_,_,_,m _ _ λs hs x f w v j d=> ?_,h.2⟩;rw[hy]at d;rw[d.nils_inv];exact⟨_,jh h.1 none 0 0 w,.pure (.int _ _)⟩
 .rename_i b hy;refine⟨_,_,_,m _ _ λs hs x f w v j d=> ?_,h.2⟩;rw[hy]at d
  cases d with
  |pure hq=>cases hq with
   |sn b c _=>exact⟨_,jh h.1 _ 0 c w,.pure (.int _ _)⟩
 .rename_i n k hy;split at h;{rename_i e H sh xs hf;obtain⟨J,z,A⟩:=h;refine⟨_,_,_,m _ [n] λs hs x f w v j d=> ?_,A⟩;rw[hy]at d;obtain⟨a,c,rfl⟩:=bnw j d ((hs n Ad).trans hf) J;exact⟨_,jh z a k c w,.pure (.int _ _)⟩};{rename_i e H xs hf;obtain⟨J,z,A⟩:=h;refine⟨_,_,_,m _ [n] λs hs x f w v j d=> ?_,A⟩;rw[hy]at d;obtain⟨a,c,rfl⟩:=d.os_inv.1;exact⟨_,jh z a k c w,.pure (.int _ _)⟩};.exact h.elim
 .rename_i n k i hy;refine⟨_,_,_,m _ _ λs hs x f w v j d=> ?_,h.2⟩;rw[hy]at d;obtain⟨q,c,rfl,_⟩:=d.osl_inv;exact⟨_,jh h.1 (some q) (k - i) c w,.pure (.int _ _)⟩
 .rename_i n k hy;split at h;{rename_i e H k' xs hf;obtain⟨rfl,z,A⟩:=h;refine⟨_,_,_,m _ [n] λs hs x f w v j d=> ?_,A⟩;rw[hy]at d;have D:=(hs n Ad).trans hf;obtain⟨_,B,T,l,I,L,V,O⟩:=d.oq_inv;rw[D]at I;cases I;simp only[Box.qdim,b0c,b0t]at L;obtain⟨_,Y,E,_⟩:=j.box n _ D;rw[O L.2];rcases E.2 with ⟨G,Q⟩|⟨g,W,N,S,X,G,_⟩;{rw[G,Q];exact⟨_,jh z none 0 0 w,.pure (.int _ _)⟩};.rw[G];exact⟨_,jh z _ _ _ w,.pure (.int _ _)⟩};.exact h.elim
 .cases ha:aae P t with|none=>rw[ha]at h;exact h.elim|some p=>obtain⟨n,e⟩:=p;rw[ha]at h;refine⟨_,_,_,m _ _ λs hs x f w v j d=>⟨.int .i64 n,?_,.pure (.int _ _)⟩,h⟩;simp[Builtin.len_,run_underlying (ahn ha),goInt]
theorem a5l{e:Nat}(D:o.op= .convert src dst y)(J:ρ y= .str l)(H:P.underlying src=some .string)
  (q:P.underlying dst=some (.slice e)) (k:P.underlying e=some (.int .u8)) (hd:ai σ d=none) (N:l.length<=140737488355328):LOp P o ρ σ (.os d l.length) [(d,.arr e 1 false (cz l))] [d]:=by
 refine⟨Ad,λs hs x a M w L h F Q I=> ?_⟩;have A:=h y Ca;rw[J]at A;have z:s d=none:=(hs d Ad).trans hd;have m:=run_bytes_of_string (P:=P) w src dst e ⟨l.toArray⟩ H q k;have f:=grownCap_ge w (ByteArray.size ⟨l.toArray⟩) 0 e;have C:=grownCap_le_maxLen w (ByteArray.size ⟨l.toArray⟩) 0 e (by rw[n4];simp only[maxLen];omega);rw[n4]at f C m
 have t:(bytesRow ⟨l.toArray⟩ (grownCap w l.length 0 e)).size=grownCap w l.length 0 e:=by simp[bytesRow];have:(ByteArray.mk l.toArray).size=l.length:=n4 l;omega
 have c:(cz l).length=l.length:=Bz
 obtain⟨v,p⟩:=L.drew 1
 have G:=v.new (d:=d) (hd:= .slice (some ⟨w.heap.size,0,none⟩) l.length (grownCap w l.length 0 e)) (B:= .arr e 1 false (cz l))
  (w':=(w.drewN 1).alloc (.cells (bytesRow ⟨l.toArray⟩ (grownCap w l.length 0 e)) e ((bytesRow ⟨l.toArray⟩ (grownCap w l.length 0 e)).size,(bytesRow ⟨l.toArray⟩ (grownCap w l.length 0 e)).size+1))) z rfl rfl rfl Ad
  (λb g=>heap_alloc_old (w.drewN 1) _ b g) (λb g=>by simp[blk]at g;show w.heap.size<=b;omega) λE O=>by
   refine⟨Aa,l.map λb=> .int .u8 (b.toNat:Int),⟨Bz,.inr ⟨w.heap.size,_,_,_,by rw[c],.inr ⟨k,rfl⟩,heap_alloc_new (w.drewN 1) _,by rw[c];exact f,C,by rw[t,b3f],?_⟩⟩,Bz,by simp[cz,fy],λi r j u m n=> ?_⟩
   .rw[c,b3f];simp[bytesRow]
   .obtain⟨b,g,rfl⟩: ∃b,l[i]? =some b/\[PV.int .u8 (b.toNat:Int)]=r:=by simpa [cz] using m
    have K:j=0:=by
     have:=(dm.1 n).1;simp at this;exact this
    subst K;simp at n;subst n;rw[b3f,b13,bd,b0s,g];exact .int _ _
 unfold Oper.wp;simp only[execOp,D,A.str_inv,b0v,m,b0w,b1r];rw[b1p];exact I _ _ _ G.1 (p.trans G.2) (.os ⟨⟨_,_,rfl⟩,.arr e 1 false (cz l),1,l.length,Bj,by simp[Box.dim,c],b0f _,λ_=>Ad⟩)
def tw(P:Program)(src dst:TypeId)(od:Option Nat)(σ:ASt)(u:PV)(K:KT):Prop:=
 match u,od with
 | .str l,some d=>if je P dst=true then kz P src=true/\K (.str l) [] []else
   match cw P dst with
   |some e=>je P src=true/\m6 P dst=true/\ai σ d=none/\l.length<=140737488355328/\K (.os d l.length) [(d,.arr e 1 false (cz l))] [d]
   |none=>False
 |u,_=>v7 P src dst σ u K
theorem ag7(c:o.op= .convert src dst y)(h:tw P src dst o.dst σ (ρ y) K):
  ∃u δ F,LOp P o ρ σ u δ F/\K u δ F:=by
 unfold tw at h;split at h
 .rename_i l d hy hd;by_cases hs:je P dst=true
  .rw[if_pos hs]at h;refine zk c ?_;rw[hy];unfold v7;simp only[hs,b4i];exact h
  .rw[if_neg hs]at h;split at h
   .rename_i e he;obtain⟨g,j,m,k,i⟩:=h;obtain⟨n,a,f⟩:=yi j;have b:=bx he;rw[a]at b
    cases b
    exact⟨_,_,_,a5l c hy (jd g) a f m k,i⟩
   .exact h.elim
 .exact zk c h
/- Operations on abstract values: parts of slices, new memory, stores, append. -/
theorem amo(f: ∀n∈ns,∃B,ai σ n=some B)
  (h: ∀(s:St),(∀n∈ns,s n=ai σ n)->∀(x:Ctx P) (a:Act) (hv:Nat->Value) (w:World),SimW x s hv w->(∀y∈o.op.operands,RV (env x s hv w) (a.eval y) (ρ y))->
   ∃v,(execOp a.eval o).run P w= .ok (.value v) w/\RV (env x (a8 s ns) hv w) v u):LOp P o ρ σ u (ej σ ns) ns:=by refine⟨λp k=> ?_,λs hs x a hv w j e i Q c=> ?_⟩;{obtain⟨n,c,rfl⟩:=b0z.1 k;exact c};.obtain⟨v,h1,h2⟩:=h s hs x a hv w j e;have b:app s (ej σ ns)=a8 s ns:=rt λn c=>(by obtain⟨B,g⟩:=f n c;exact⟨B,(hs n c).trans g,.inl g.symm⟩);unfold Oper.wp;rw[h1,b1p];have d:=j.shared (em s ns);refine c v hv w ?_ ?_ ?_;{rw[b];exact d.1};{rw[b];exact d.2};.rw[b];exact h2
def loN:Option PV->Option Int
 |none=>some 0
 |some (.int _ n)=>some n
 |_=>none
def hiN(len:Nat):Option PV->Option Int
 |none=>some len
 |some (.int _ n)=>some n
 |_=>none
def BV(o:Option PV)(v:Option Value):Prop:=match o,v with
 |none,none=>True
 |some (.int k n),some v=>v= .int k n
 |_,_=>False
theorem ads{a:Act}{y:Option Operand}{l:Int}(h:loN (y.map ρ)=some l)(c: ∀z∈y,RV E (a.eval z) (ρ z)):BV (y.map ρ) (y.map a.eval):=by cases y with|none=>trivial|some z=>have b:=c z Ad;simp only[b02]at h ⊢;generalize ρ z=u at h b;cases u<;>simp only[loN]at h<;>(try (cases h;done));exact b.int_inv
theorem arw{o:Option PV}{l:Int}(h:hiN len o=some l): ∃l',loN o=some l':=by unfold hiN at h;split at h;{exact⟨0,rfl⟩};{exact⟨_,rfl⟩};.cases h
theorem ahh{o:Option PV}{v:Option Value}{l:Int}(h:loN o=some l)(b:BV o v):(o=none/\v=none/\l=0)\/∃k,o=some (.int k l)/\v=some (.int k l):=by unfold loN at h;split at h;{cases v with|none=>exact .inl ⟨rfl,rfl,by simpa using h.symm⟩|some _=>exact b.elim};{rename_i k n;cases v with|none=>exact b.elim|some v=>have a:v= .int k n:=b;cases h;exact .inr ⟨k,rfl,A4⟩};.cases h
theorem ahl{o:Option PV}{v:Option Value}{l:Int}(h:hiN len o=some l)(b:BV o v):(o=none/\v=none/\l=len)\/∃k,o=some (.int k l)/\v=some (.int k l):=by unfold hiN at h;split at h;{cases v with|none=>exact .inl ⟨rfl,rfl,by simpa using h.symm⟩|some _=>exact b.elim};{rename_i k n;cases v with|none=>exact b.elim|some v=>have a:v= .int k n:=b;cases h;exact .inr ⟨k,rfl,A4⟩};.cases h
theorem l8(b:Bool)(e d:Nat)(x:e<=d){lo hi mx:Option PV}{vl vh vm:Option Value}{l h m:Int}(f:loN lo=some l)(p:hiN e hi=some h)(u:hiN e mx=some m)
  (j:BV lo vl) (q:BV hi vh) (r:BV mx vm) (h0:0<=l) (s:l<=h) (t:h<=m) (v:m<=e) (n:mx.isSome->hi.isSome):
  ∃m',(Instr.sliceBounds b e d vl vh vm).run P w= .ok (l.toNat,h.toNat,m') w/\h.toNat<=m'/\(vm=none->m'=d)/\(vm≠none->m'=m.toNat):=by have a: ∀(k:IntKind) (i:Int) (y:Nat) (c:BoundsCode),0<=i->i<=y->(Instr.sliceBound (.int k i) y c).run P w= .ok i.toNat w:=λk i y c h0 f=>run_sliceBound w k i y c h0 f;rcases ahl u r with ⟨_,rfl,rfl⟩|⟨o,rfl,rfl⟩;{refine⟨d,?_,Aa,λ_=>rfl,λh=>absurd rfl h⟩;rcases ahl p q with ⟨_,rfl,rfl⟩|⟨g,_,rfl⟩;{rcases ahh f j with ⟨_,rfl,rfl⟩|⟨kl,_,rfl⟩;{simp[Instr.sliceBounds]};.simp[Instr.sliceBounds,a kl l e _ h0 Aa]};.rcases ahh f j with ⟨_,rfl,rfl⟩|⟨kl,_,rfl⟩;{simp[Instr.sliceBounds,a g h d _ Aa Aa]};.simp[Instr.sliceBounds,a g h d _ Aa Aa,a kl l h.toNat _ h0 Aa]};.refine⟨m.toNat,?_,Aa,(λh=>D1),λ_=>rfl⟩;rcases ahl p q with ⟨rfl,rfl,rfl⟩|⟨g,_,rfl⟩;{simp at n};.rcases ahh f j with ⟨_,rfl,rfl⟩|⟨kl,_,rfl⟩;{simp[Instr.sliceBounds,a o m d _ Aa Aa,a g h m.toNat _ Aa Aa]};.simp[Instr.sliceBounds,a o m d _ Aa Aa,a g h m.toNat _ Aa Aa,a kl l h.toNat _ h0 Aa]
theorem tf{b:Nat}(G:cw P t=some e)(r:dx P e=some b)(hv:RP pc v (.vs xs)){lo hi mx:Option PV}{vl vh vm:Option Value}{l h m:Int}
  (H:loN lo=some l) (F:hiN xs.length hi=some h) (N:hiN xs.length mx=some m) (L:BV lo vl) (O:BV hi vh) (D:BV mx vm) (h0:0<=l) (y:l<=h) (k:h<=m) (E:m<=xs.length) (g:mx.isSome->hi.isSome) (w:World)
  (f:0<l->∀x∈xs,x.length=b):
  ∃v',(Instr.sliceAt t v vl vh vm).run P w= .ok v' w/\RP pc v' (.vs ((xs.take h.toNat).drop l.toNat))/\(vm≠none->∃a,v'= .slice a (h.toNat - l.toNat) (m.toNat - l.toNat)):=by obtain⟨a,c,sz,U,rfl,M,hs,A,Q,J⟩:=hv.vs_inv;obtain⟨s,K,C,I,z⟩:=l8 (P:=P) (w:=w) true xs.length c M H F N L O D h0 y k E g;refine⟨.slice (if s=l.toNat then a else a.map (·.add (l.toNat*b))) (h.toNat - l.toNat) (s - l.toNat),?_,?_,λh=>⟨_,by rw[z h]⟩⟩;{simp[Instr.sliceAt,Instr.slice,run_underlying (bx G),K,eo r]};.have hxs: ∀i x,((xs.take h.toNat).drop l.toNat)[i]? =some x->xs[l.toNat+i]? =some x:=λi x hx=>(by rw[b1k,b04]at hx;split at hx;{exact hx};.cases hx);refine .vs (sz:=sz) (λi j=>U (l.toNat+i) j) (by rw[b1b,b0i];omega) Aa (λx hx=>hs x (b1e (b1t hx))) (λx hx=>A x (b1e (b1t hx))) (λR=> ?_) λi x j u hx p=>J _ x j u (hxs i x hx) p;have n:0<xs.length:=Aa;obtain⟨ad,rfl,o⟩:=Q n;have q:s≠l.toNat:=Aa;rw[if_neg q];refine⟨_,rfl,λi x j u hx p=> ?_⟩;have:=o _ x j u (hxs i x hx) p;rw[Addr.add_assoc'];have d:l.toNat*b+(i*sz+j)=(l.toNat+i)*sz+j:=(by rcases Int.lt_or_le 0 l with B|B;{have:b=sz:=(by rw[<-f B x (b0e (hxs i x hx)),hs x (b0e (hxs i x hx))]);subst this;rw[b2a,b4u]};.have:l.toNat=0:=Aa;simp[this]);rw[d];exact this
def a04(P:Program)(t:TypeId)(σ:ASt)(u:PV)(lo hi mx:Option PV)(K:KT):Prop:=
 ∃l,loN lo=some l/\
 match u with
 | .vs xs=> ∃e sz h m,cw P t=some e/\dx P e=some sz/\hiN xs.length hi=some h/\hiN xs.length mx=some m/\0<=l/\l<=h/\h<=m/\m<=xs.length/\(mx.isSome->hi.isSome)/\
   (0<l->∀x∈xs,x.length=sz)/\K (.vs ((xs.take h.toNat).drop l.toNat)) [] []
 | .nils=> ∃e sz h m,cw P t=some e/\dx P e=some sz/\hiN 0 hi=some h/\hiN 0 mx=some m/\0<=l/\l<=h/\h<=m/\m<=0/\(mx.isSome->hi.isSome)/\K (.vs []) [] []
 | .os n k=>match ai σ n with
  |some (.arr _ asz _ xs)=> ∃e sz h m,cw P t=some e/\dx P e=some sz/\asz=sz/\hiN xs.length hi=some h/\hiN xs.length mx=some m/\k=xs.length/\0<=l/\l<=h/\h<=m/\m<=xs.length/\(mx.isSome->hi.isSome)/\
   K (.vs ((xs.take h.toNat).drop l.toNat)) (ej σ [n]) [n]
  |_=>False
 | .str s=> ∃h,hiN s.length hi=some h/\je P t=true/\mx=none/\0<=l/\l<=h/\h<=s.length/\K (.str ((s.take h.toNat).drop l.toNat)) [] []
 |_=>False
theorem xa{lo hi mx:Option Operand}(W:o.op= .slice t y lo hi mx)(h:a04 P t σ (ρ y) (lo.map ρ) (hi.map ρ) (mx.map ρ) K):
  ∃u δ F,LOp P o ρ σ u δ F/\K u δ F:=by
 obtain⟨l,D,h⟩:=h;have j: ∀z∈lo,z∈o.op.operands:=λz c=>by cases lo<;>simp_all [Op.operands]
 have i: ∀z∈hi,z∈o.op.operands:=λz c=>by cases hi<;>simp_all [Op.operands]
 have q: ∀z∈mx,z∈o.op.operands:=λz c=>by cases mx<;>simp_all [Op.operands]
 have p: ∀(a:Act) (v:Value) w r,a.eval y=v->(Instr.sliceAt t v (lo.map a.eval) (hi.map a.eval) (mx.map a.eval)).run P w= .ok r w->(execOp a.eval o).run P w= .ok (.value r) w:=λa v w r Q hr=>by simp only[execOp,W];rw[b0v,Q,hr];rfl
 split at h
 .rename_i xs hy;obtain⟨e,sz,N,m,U,R,B,C,O,M,H,G,J,a0,A⟩:=h;refine⟨_,_,_,ar λs hs x a Q w Y b=> ?_,A⟩;have d:=b y Bp;rw[hy]at d;obtain⟨I,f⟩:=arw B;obtain⟨X,g⟩:=arw C;obtain⟨E,V,S,_⟩:=tf U R d.vs_inv D B C (ads D λz c=>b z (j z c)) (ads f λz c=>b z (i z c)) (ads g λz c=>b z (q z c)) O M H G J w a0;exact⟨E,p a _ w E rfl V,.pure S⟩
 .rename_i hy;obtain⟨e,sz,N,m,U,R,B,C,O,M,H,G,J,A⟩:=h;refine⟨_,_,_,ar λs hs x a Q w Y b=> ?_,A⟩;have d:=b y Bp;rw[hy]at d;obtain⟨I,f⟩:=arw B;obtain⟨X,g⟩:=arw C;have Z:RP (env x s Q w).pc (a.eval y) (.vs []):=(by rw[d.nils_inv];exact .vs (sz:=0) (λ_ _=>undef) rfl (b0f _) Ad Ad Ad Ad);obtain⟨E,V,S,_⟩:=tf U R Z D B C (ads D λz c=>b z (j z c)) (ads f λz c=>b z (i z c)) (ads g λz c=>b z (q z c)) O M H G J w Ad;exact⟨E,p a _ w E rfl V,.pure (by simpa using S)⟩
 .rename_i n k hy;split at h;{rename_i e' asz sh xs hf;obtain⟨e,sz,N,m,U,R,a3,B,C,a2,O,M,H,G,J,A⟩:=h;refine⟨_,_,_,amo (ns:=[n]) (by simp[hf]) λs hs x a Q w Y b=> ?_,A⟩;have d:=b y Bp;rw[hy]at d;obtain⟨I,f⟩:=arw B;obtain⟨X,g⟩:=arw C;have Z:=f9 (ns:=[n]) Y hs (by simp[pur,hf,a2]:pur σ (.os n k)=some (.vs xs,[n])) Ad d;have T:=Y.box n _ ((hs n Ad).trans hf);obtain⟨_,_,_,L,_,_⟩:=T;obtain⟨E,V,S,_⟩:=tf U R Z D B C (ads D λz c=>b z (j z c)) (ads f λz c=>b z (i z c)) (ads g λz c=>b z (q z c)) O M H G J w (λ_ x hx=>by rw[L x hx,a3]);exact⟨E,p a _ w E rfl V,.pure S⟩};.exact h.elim
 .rename_i s0 hy;obtain⟨N,B,C,O,M,H,G,J⟩:=h;refine⟨_,_,_,ar λs hs x a Q w Y b=> ?_,J⟩;have d:=b y Bp;rw[hy]at d;obtain⟨I,f⟩:=arw B;have a1:mx=none:=(by cases mx<;>simp_all);subst a1;obtain⟨m',hb,a4,a5,_⟩:=l8 (P:=P) (w:=w) (m:=s0.length) false s0.length s0.length (b0f _) D B (mx:=none) (vm:=none) rfl (ads D λz c=>b z (j z c)) (ads f λz c=>b z (i z c)) trivial M H G Aa Ad;refine⟨.string ⟨((s0.take N.toNat).drop l.toNat).toArray⟩,p a _ w _ d.str_inv ?_,.pure (.str _)⟩;have p:(⟨s0.toArray⟩:ByteArray).extract l.toNat N.toNat=⟨((s0.take N.toNat).drop l.toNat).toArray⟩:=(by apply ByteArray.ext;simp[b60,b6j]);simp[Instr.sliceAt,Instr.slice,run_underlying (jd C),n4,hb,p]
 .exact h.elim
theorem aks{sz:TypeId}{m:Operand}{n k:IntKind}{i:Int}(g:o.op= .slice t y none (some z) (some m))(B:ρ y= .vs xs)(A:ρ z= .int n i)(r:ρ m= .int k i)
  (p:cw P t=some e) (u:dx P e=some sz) (h0:0<=i) (hi:i<=xs.length):LOp P o ρ σ (.vx (xs.take i.toNat)) [] []:=by refine ar λs hs x a F w G b=> ?_;have c:=b y Ao;have f:=b z Ao;have d:=b m Ao;rw[B]at c;rw[A]at f;rw[r]at d;obtain⟨D,q,v,C⟩:=tf p u c.vs_inv (lo:=none) (hi:=some (.int n i)) (mx:=some (.int k i)) (vl:=none) (vh:=some (a.eval z)) (vm:=some (a.eval m)) (l:=0) (h:=i) (m:=i) rfl rfl rfl trivial f.int_inv d.int_inv (b3g 0) h0 (b3g i) hi (λ_=>rfl) w (λh=>absurd h Aa);obtain⟨E,j⟩:=C Ad;refine⟨D,?_,.vx j (by simpa using v)⟩;simp only[execOp,g,b65,b02];rw[b0v,q];rfl
theorem aiu{sz H:TypeId}{m:Operand}{k:Nat}{q p:IntKind}{i:Int}(g:o.op= .slice t y none (some z) (some m))(G:ρ y= .os n k)(r:ai σ n=some (.arr H sz sh xs))(C:k=xs.length)(F:ρ z= .int q i)(B:ρ m= .int p i)
  (u:cw P t=some e) (D:dx P e=some sz) (h0:0<=i) (hi:i<=xs.length):LOp P o ρ σ (.vx (xs.take i.toNat)) (ej σ [n]) [n]:=by
 refine amo (ns:=[n]) (by simp[r]) λs hs x a M w I b=> ?_;have c:=b y Ao;have f:=b z Ao;have d:=b m Ao;rw[G]at c;rw[F]at f;rw[B]at d;have v:=f9 (ns:=[n]) I hs (by simp[pur,r,C]:pur σ (.os n k)=some (.vs xs,[n])) Ad c;obtain⟨K,A,E,J⟩:=tf u D v (lo:=none) (hi:=some (.int q i)) (mx:=some (.int p i)) (vl:=none) (vh:=some (a.eval z)) (vm:=some (a.eval m)) (l:=0) (h:=i) (m:=i) rfl rfl rfl trivial f.int_inv d.int_inv (b3g 0) h0 (b3g i) hi (λ_=>rfl) w (λh=>absurd h Aa);obtain⟨L,j⟩:=J Ad;refine⟨K,?_,.vx j F4⟩;simp only[execOp,g,b65,b02];rw[b0v,A];rfl
/- Operations on abstract values: new memory, stores, append. -/
def ei:PV->Option LP
 | .agg cs=>some cs
 | .undef=>none
 | .tup _=>none
 | .ago _=>none
 |u=>some [u]
def RVs(E:Env)(a:Array Value)(us:LP):Prop:=a.size=us.length/\∀i u,us[i]? =some u->RV E (a.getD i undef) u
theorem RVs.mono{F:Env}(h:Env.le E F){a:Array Value}(b:RVs E a us):RVs F a us:=⟨b.1,λi u c=>(b.2 i u c).mono h⟩
theorem RVs.one(h:RV E v u):RVs E #[v] [u]:=by refine⟨rfl,λi b a=> ?_⟩;cases i with|zero=>simp at a;subst a;exact h|succ i=>simp at a
theorem ay8(h:fy u=true):ei u=some [u]:=by cases u<;>simp_all [fy,ei]
theorem j7(h:RV (env x s hv w) v u)(e:fy u=true):v.oneCell'=true/\v.cells= #[v]:=by cases h with|undef=>cases e|pure h=>(cases h<;>first|exact⟨rfl,rfl⟩|cases e)|ptr h=>obtain⟨_,b,_,d⟩:=h;rw[d];exact⟨rfl,rfl⟩|os h=>obtain⟨⟨a,c,d⟩,_⟩:=h;rw[d];exact⟨rfl,rfl⟩|oel h=>obtain⟨⟨q,d⟩,_⟩:=h;rw[d];exact⟨rfl,rfl⟩|osl hv h=>rw[hv];exact⟨rfl,rfl⟩|vx hv h=>rw[hv];exact⟨rfl,rfl⟩|mh h=>obtain⟨⟨⟨b,d⟩,_⟩,_⟩:=h;cases v<;>simp[blk]at d<;>exact⟨rfl,rfl⟩|oq h=>obtain⟨⟨a,m,c,d⟩,_⟩:=h;rw[d];exact⟨rfl,rfl⟩|oss hv h=>rw[hv];exact⟨rfl,rfl⟩|oqe h h1 hq=>obtain⟨q,d⟩:=h1;rw[d];exact⟨rfl,rfl⟩|el=>exact⟨rfl,rfl⟩|agg=>cases e|tup=>cases e|ago=>cases e|fn=>exact⟨rfl,rfl⟩
theorem fu(h:RV (env x s hv w) v u)(a:ei u=some us):RVs (env x s hv w) v.cells us:=by by_cases b:fy u=true;{rw[ay8 b]at a;cases a;rw[(j7 h b).2];exact .one h};.cases u<;>simp[fy]at b<;>simp only[ei]at a<;>(try (cases a;done));cases a;obtain⟨e,rfl,d,c⟩:=h.agg_inv;exact⟨d,c⟩
def btg(off:Nat)(us cs:LP):LP:=us.zipIdx.foldl (λcs p=>cs.set (off+p.2) p.1) cs
theorem amb(off:Nat): ∀(vs:List Value) (us:LP) (k:Nat) (a:Array Value) (cs:LP),RVs E a cs->vs.length=us.length->(∀i u,us[i]? =some u->RV E (vs.getD i undef) u)->
  RVs E ((vs.zipIdx k).foldl (λcs (c,j)=>cs.setIfInBounds (off+j) c) a) ((us.zipIdx k).foldl (λcs p=>cs.set (off+p.2) p.1) cs)
 |[],[],k,a,cs,h,_,_=>h
 |v::vs,u::us,k,a,cs,h,hl,hr=>by
  simp only[b5w,b2j];refine amb off vs us (k+1) _ _ ⟨by simp[h.1],λi r hi=> ?_⟩ (by simpa using hl) λi r hi=> ?_
  .rw[b2x]at hi;by_cases hki:off+k=i
   .subst hki;rw[if_pos rfl]at hi;split at hi
    .rename_i hlt;have hlt':off+k<a.size:=by rw[h.1];exact hlt
     cases hi
     have h0:=hr 0 u rfl;simp at h0;simpa [hlt'] using h0
    .cases hi
   .rw[if_neg hki]at hi;have:=h.2 i r hi;have b:i<a.size:=by rw[h.1];exact(dm.1 hi).1
    simpa [b1c,b4e hki] using this
  .have:=hr (i+1) r (by simpa using hi)
   simpa using this
 |[],_::_,_,_,_,_,hl,_=>B0
 |_::_,[],_,_,_,_,hl,_=>B0
def a0k(place:Nat->Option (Nat×Nat))(cs:LP):List (Nat×PV)->Option LP
 |[]=>some cs
 |(i,u)::r=>
  match place i,ei u with
  |some (off,size),some us=>if us.length≠size\/off+us.length>cs.length then none else a0k place (btg off us cs) r
  |_,_=>none
theorem xj{b place':Nat->Option (Nat×Nat)}(e: ∀i p,b i=some p->place' i=some p): ∀(ps:List (Nat×Value)) (qs:List (Nat×PV)) (a:Array Value) (cs cs':LP),
  RVs (env x s hv w) a cs->ps.length=qs.length->(∀(i:Nat) (p:Nat×Value) (q:Nat×PV),ps[i]? =some p->qs[i]? =some q->p.1=q.1/\RV (env x s hv w) p.2 q.2)->a0k b cs qs=some cs'->
  ∃a',Instr.fill place' a ps=some a'/\RVs (env x s hv w) a' cs'
 |[],[],a,cs,cs',h,_,_,hf=>by cases hf;exact⟨a,rfl,h⟩
 |(i,v)::ps,(j,u)::qs,a,cs,cs',h,hl,hr,hf=>by
  obtain⟨h1,h2⟩:=hr 0 (i,v) (j,u) rfl rfl;simp only at h1 h2;subst h1;simp only[a0k]at hf
  cases hpl:b i with
  |none=>rw[hpl]at hf;cases hf
  |some p=>
   obtain⟨f,g⟩:=p
   cases hc:ei u with
   |none=>rw[hpl,hc]at hf;cases hf
   |some us=>
    rw[hpl,hc]at hf;simp only at hf;split at hf
    .cases hf
    .rename_i hn;have c:=fu h2 hc;have d:=amb f v.cells.toList us 0 a cs h (by simpa using c.1) (λi r m=>by have:=c.2 i r m;simpa [bd] using this);obtain⟨a',n,l⟩:=xj e ps qs _ _ cs' d Cg (λk p q e o=>hr (k+1) p q A5 (by simpa using o)) hf;refine⟨a',?_,l⟩;simp only[Instr.fill,e i _ hpl];rw[if_neg (by rw[c.1,h.1];simpa using hn),<-n];congr 1;rw[<-b7z];congr 1
     simp
 |[],_::_,_,_,_,_,hl,_,_=>B0
 |_::_,[],_,_,_,_,hl,_,_=>B0
def bf(P:Program)(t:TypeId):Option (List (Nat×Nat)):=
 match P.underlying t with
 |some (.struct fs)=>fs.toList.mapM λf=>(P.info? f.type).map λi=>(f.offset,i.size)
 |some (.array n e)=>(P.info? e).map λie=>(List.range n).map λi=>(i*ie.size,ie.size)
 |_=>none
def ac9(P:Program)(t:TypeId)(parts:List (Nat×PV)):Option LP:=
 match az P t,bf P t with
 |some zs,some pl=>a0k (pl[·]?) zs parts
 |_,_=>none
theorem iz(h:az P t=some zs): ∃it z,P.info? t=some it/\it.zero=some z/\z.cells.toList.map adf=zs:=by unfold az at h;cases hi:P.info? t with|none=>rw[hi]at h;cases h|some it=>cases hz:it.zero with|none=>rw[hi]at h;simp[hz]at h|some z=>rw[hi]at h;simp[hz]at h;exact⟨it,z,rfl,hz,h⟩
theorem avc(E:Env)(z:Value):RVs E z.cells (z.cells.toList.map adf):=by refine⟨Ad,λi u a=> ?_⟩;rw[b0s]at a;cases hq:z.cells.toList[i]? with|none=>rw[hq]at a;cases a|some v=>rw[hq]at a;cases a;have b:z.cells[i]? =some v:=Cq;rw[b1c,b];exact ac5 _ _
theorem ar6{ps:List (Nat×Value)}{g:List (Nat×PV)}(r:ps.length=g.length)
  (o: ∀(i:Nat) (p:Nat×Value) (q:Nat×PV),ps[i]? =some p->g[i]? =some q->p.1=q.1/\RV (env x s hv w) p.2 q.2) (c:ac9 P t g=some cs): ∃a,P.built t ps=some a/\RVs (env x s hv w) a cs:=by
 unfold ac9 at c
 cases hz:az P t with
 |none=>rw[hz]at c;cases c
 |some zs=>
  cases hp:bf P t with
  |none=>rw[hz,hp]at c;cases c
  |some pl=>
   rw[hz,hp]at c;obtain⟨y,z,u,m,v⟩:=iz hz;have f:=avc (env x s hv w) z;rw[v]at f;unfold bf at hp;unfold Program.built;rw[u]
   cases hu:P.underlying t with
   |none=>rw[hu]at hp;cases hp
   |some d=>
    rw[hu]at hp
    cases d<;>simp only at hp<;>(try (cases hp;done))
    case struct fs=>simp only[m,hp];obtain⟨l,h,k⟩:=xj (place':=(pl.toArray[·]?)) (λi p b=>A0) ps g z.cells zs cs f r o c;exact⟨l,h,k⟩
    case array n e=>
     cases he:P.info? e with
     |none=>rw[he]at hp;cases hp
     |some ie=>
      rw[he]at hp;simp only[b02,b0c]at hp;subst hp;simp only[m,he]
      obtain⟨l,h,k⟩:=xj (place':=λi=>some (i*ie.size,ie.size)) (λi p b=>by
       rw[b0s]at b
       cases hq:(List.range n)[i]? with
       |none=>rw[hq]at b;cases b
       |some j=>
        rw[hq]at b
        have:j=i:=by have:=b2z (n:=n) (i:=i) Fs;rw[hq]at this;exact b3v this
        subst this;exact b) ps g z.cells zs cs f r o c
      exact⟨l,h,k⟩
theorem a33{b:Array (Nat×Operand)}(g:o.op= .build t b)(k:ac9 P t (b.toList.map λp=>(p.1,ρ p.2))=some cs):LOp P o ρ σ (.agg cs) [] []:=by
 refine ar λs hs x a hv w m d=> ?_
 obtain⟨e,j,h⟩:=ar6 (P:=P) (t:=t) (x:=x) (s:=s) (hv:=hv) (w:=w) (ps:=b.toList.map λp=>(p.1,a.eval p.2)) Ad (λi p q c f=>by
  rw[b0s]at c f
  cases hr:b.toList[i]? with
  |none=>rw[hr]at c;cases c
  |some r=>
   rw[hr]at c f
   cases c
   cases f
   refine⟨rfl,d r.2 ?_⟩;simp only[g,Op.operands,b5x,b0z];simp;exact⟨r.1,by simpa using Array.mem_of_getElem? Fv⟩) k
 refine⟨.agg e,?_,.agg h.1 h.2⟩;have l:(b.map λ(i,x)=>(i,a.eval x)).toList=b.toList.map λp=>(p.1,a.eval p.2):=Ad
 simp only[execOp,g];rw[b0v,run_build w t _ e (by rw[l];exact j)];rfl
theorem a64(hd:ai σ d=none)
  (h: ∀(x:Ctx P) (s:St) (a:Act) (hv:Nat->Value) (w:World),SimW x s hv w->(∀y∈o.op.operands,RV (env x s hv w) (a.eval y) (ρ y))->
   ∃arr t,(execOp a.eval o).run P w= .ok (.value (.pointer (some ⟨w.heap.size,0,none⟩))) (w.alloc (.cells arr t))/\RVs (env x s hv w) arr us):LOp P o ρ σ (.ptr d 0) [(d,.cells us)] [d]:=by refine⟨Ad,λs hs x a hv w i b f Q k=> ?_⟩;obtain⟨arr,t,j,e⟩:=h x s a hv w i b;have c:s d=none:=(hs d Ad).trans hd;have g:=i.newCells (t:=t) c e.1 e.2;unfold Oper.wp;rw[j,b1p];exact k _ _ _ g.1 g.2 (.ptr ⟨⟨us,Bj⟩,w.heap.size,Ad,rfl⟩)
theorem a8o{t:Nat}(h:o.op= .alloc t)(g:az P t=some zs)(hd:ai σ d=none):LOp P o ρ σ (.ptr d 0) [(d,.cells zs)] [d]:=by obtain⟨i,z,c,e,f⟩:=iz g;refine a64 hd λx s a k w j b=>⟨z.cells,t,?_,?_⟩;{simp[execOp,h,Instr.alloc,zeroValue,typeInfo,c,e,newVar,newRow]};.rw[<-f];exact avc _ z
theorem bhg{t:Nat}(c:o.op= .box t y)(e:ei (ρ y)=some us)(hd:ai σ d=none):LOp P o ρ σ (.ptr d 0) [(d,.cells us)] [d]:=by refine a64 hd λx s a g w f b=>⟨(a.eval y).cells,t,?_,fu (b y (by simp[c,Op.operands])) e⟩;simp[execOp,c,Instr.box,newVar,newRow]
theorem SimW.newArr{e:Nat}{a:Array Value}(h:SimW x s hv w)(o:s d=none)(g:0<sz)(l:xs.length<=n)(t:n<=maxLen)(m:a.size=n*sz)
  (c: ∀x∈xs,x.length=sz) (f: ∀x∈xs,x.all fy=true) (p: ∀i r j u,xs[i]? =some r->r[j]? =some u->RP (env x s hv w).pc (a.getD (i*sz+j) undef) u):
  SimW x (upd s d (some (.arr e sz false xs))) (upd hv d (.slice (some ⟨w.heap.size,0,none⟩) xs.length n)) (w.alloc (.cells a e))/\
   Env.le (env x s hv w) (env x (upd s d (some (.arr e sz false xs))) (upd hv d (.slice (some ⟨w.heap.size,0,none⟩) xs.length n)) (w.alloc (.cells a e))):=
 h.new o rfl rfl rfl Ad (λb hb=>heap_alloc_old w _ b hb) (λb hb=>by simp[blk]at hb;omega) λE hE=>by
  have hle:xs.length*sz<=n*sz:=b08 _ l;refine⟨g,a.toList.take (xs.length*sz),⟨by simp[m,hle],.inr ⟨w.heap.size,n,a,(0,0),rfl,.inl rfl,heap_alloc_new w _,l,t,m,rfl⟩⟩,c,f,λi r j u hr' hu=> ?_⟩;have hi:i<xs.length:=(dm.1 hr').1
  have hj:j<sz:=by
   have:=(dm.1 hu).1;rw[c r (b0e hr')]at this;exact this
  have k:=jr hi hj;have:=p i r j u hr' hu
  have q:(a.toList.take (xs.length*sz)).getD (i*sz+j) undef=a.getD (i*sz+j) undef:=by
   rw[bd,b04,if_pos k];simp
  rw[q];exact this.mono hE.pc
theorem yn{e:Nat}(hd:ai σ d=none)(t:0<sz)(l: ∀x∈xs,x.length=sz)(m: ∀x∈xs,x.all fy=true)(v: ∀n∈ns,∃B,ai σ n=some B)
  (h: ∀(x:Ctx P) (s:St) (a:Act) (hv:Nat->Value) (w:World),(∀n∈ns,s n=ai σ n)->SimW x s hv w->(∀y∈o.op.operands,RV (env x s hv w) (a.eval y) (ρ y))->
   ∃arr n,(execOp a.eval o).run P w= .ok (.value (.slice (some ⟨w.heap.size,0,none⟩) xs.length n)) (w.alloc (.cells arr e))/\xs.length<=n/\n<=maxLen/\arr.size=n*sz/\
    ∀i r j u,xs[i]? =some r->r[j]? =some u->RP (env x (a8 s ns) hv w).pc (arr.getD (i*sz+j) undef) u):
  LOp P o ρ σ (.os d xs.length) (ej σ ns++[(d,.arr e sz false xs)]) (d::ns):=by
 have b: ∀(δ ε:ASt) (s:St),app s (δ++ε)=app (app s δ) ε:=by
  intro δ
  induction δ with
  |nil=>intro ε s;rfl
  |cons p δ ih=>intro ε s;obtain⟨n,B⟩:=p;simp[app,ih]
 refine⟨λp g=> ?_,λs hs x a hv w G q E Q c=> ?_⟩
 .rcases b0j.1 g with g|g
  .obtain⟨n,c,rfl⟩:=b0z.1 g;simp[c]
  .simp at g;subst g;simp
 .have hsn: ∀n∈ns,s n=ai σ n:=λn c=>hs n Cl;obtain⟨arr,n,H,I,L,J,K⟩:=h x s a hv w hsn G q;have k:=G.shared (em s ns)
  have f:app s (ej σ ns)=a8 s ns:=rt λn c=>by
   obtain⟨B,D⟩:=v n c;exact⟨B,(hsn n c).trans D,.inl D.symm⟩
  have z:a8 s ns d=none:=by
   have A:s d=none:=(hs d Ad).trans hd;rcases em s ns d with C|C<;>rw[C,A];rfl
  have F:=k.1.newArr (e:=e) z t I L J l m K;unfold Oper.wp;rw[H,b1p];refine c _ (upd hv d (.slice (some ⟨w.heap.size,0,none⟩) xs.length n)) _ ?_ ?_ ?_
  .rw[b,f];exact F.1
  .rw[b,f];exact k.2.trans F.2
  .rw[b,f];exact .os ⟨⟨_,_,rfl⟩,.arr e sz false xs,sz,xs.length,Bj,rfl,b0f _,λ_=>Ad⟩
/- Operations on abstract values: slices made, stores, append, and some small ones. -/
theorem aoe(off:Nat): ∀(z:List (Value×Nat)) (a:Array Value),(z.foldl (λcs (c,j)=>cs.setIfInBounds (off+j) c) a).size=a.size
 |[],_=>rfl
 |p::z,a=>by simp only[b2j];rw[aoe off z];simp
theorem auh(off:Nat): ∀(vs:List Value) (k:Nat) (a:Array Value) (m:Nat),off+k+vs.length<=a.size->
  ((vs.zipIdx k).foldl (λcs (c,j)=>cs.setIfInBounds (off+j) c) a)[m]? =if off+k<=m/\m<off+k+vs.length then vs[m - (off+k)]? else a[m]?
 |[],k,a,m,_=>by simp;omega
 |v::vs,k,a,m,h=>by
  simp only[b5w,b2j];rw[auh off vs (k+1) _ m (by simp at h ⊢;omega)];by_cases h1:off+k=m
  .subst h1;have hlt:off+k<a.size:=F6
   rw[if_neg Aa,if_pos Ad,Array.getElem?_setIfInBounds_self_of_lt hlt];simp
  .by_cases h2:off+k<=m/\m<off+k+(v::vs).length
   .rw[if_pos h2,if_pos (by simp at h2 ⊢;omega)];rw[show m - (off+k)=(m - (off+(k+1)))+1 from Aa];simp
   .rw[if_neg h2,if_neg (by simp at h2 ⊢;omega)];rw[b4e h1]
theorem abf: ∀(vs:List Value) (k:Nat) (a:Array Value),(∀v∈vs,v.cells.size=sz)->(k+vs.length)*sz<=a.size->
  ∃a',Instr.fill (λi=>some (i*sz,sz)) a ((vs.zipIdx k).map λp=>(p.2,p.1))=some a'/\a'.size=a.size/\(∀m,m<k*sz->a'[m]? =a[m]?)/\
   ∀i v j,vs[i]? =some v->j<sz->a'[(k+i)*sz+j]? =v.cells[j]?
 |[],k,a,_,_=>⟨a,rfl,rfl,λ_ _=>rfl,λi v j hv=>by simp at hv⟩
 |v::vs,k,a,hv,hl=>by
  have hvs:v.cells.size=sz:=hv v Ad;have hks:(k+1+vs.length)*sz<=a.size:=by rw[show k+1+vs.length=k+(v::vs).length from Ag];exact hl
  have g:(k+1)*sz<=a.size:=b1l (b08 _ Aa) hks;have q:k*sz+sz<=a.size:=by rw[b2a]at g;omega
  let b:=v.cells.zipIdx.foldl (λcs (c,j)=>cs.setIfInBounds (k*sz+j) c) a
  have h:b=(v.cells.toList.zipIdx 0).foldl (λcs (c,j)=>cs.setIfInBounds (k*sz+j) c) a:=by
   show v.cells.zipIdx.foldl _ a=_;rw[<-b7z];congr 1;simp
  have e:b.size=a.size:=by rw[h,aoe]
  have d: ∀m,b[m]? =if k*sz<=m/\m<k*sz+sz then v.cells[m - k*sz]? else a[m]?:=λm=>by
   rw[h,auh (k*sz) v.cells.toList 0 a m (by simp[hvs];omega)];simp[hvs]
  obtain⟨a',o,r,l,s⟩:=abf vs (k+1) b (λu n=>hv u (by simp[n])) (by rw[e];exact hks);refine⟨a',?_,by rw[r,e],λm w=> ?_,λi u j f t=> ?_⟩
  .simp only[b5w,b07,Instr.fill,hvs];rw[if_neg Ag];exact o
  .rw[l m (by rw[b2a];omega),d m,if_neg Aa]
  .cases i with
   |zero=>
    simp at f;subst f;rw[b13,l _ (by rw[b2a];omega),d,if_pos Aa];congr 1
    omega
   |succ i=>
    have:=s i u j F3 t;rw[show k+1+i=k+(i+1) from Aa]at this;exact this
def ul(σ:ASt)(sz:Nat):Nat->List (Nat×PV)->Option (List LP×LN)
 |_,[]=>some ([],[])
 |k,(i,u)::r=>
  if i=k then
   match ei u with
   |some us=>if us.length=sz/\us.all fy=true then
     match lg σ us,ul σ sz (k+1) r with
     |some (vs,a),some (xs,b)=>some (vs::xs,a++b)
     |_,_=>none
    else none
   |none=>none
  else none
theorem ac4{ns:LN}(h:SimW x s hv w): ∀(qs:List (Nat×PV)) (k:Nat) (vs:List Value) {xs:List LP} {b:LN},ul σ sz k qs=some (xs,b)->(∀n∈b,s n=ai σ n)->(∀n∈b,n∈ns)->
  vs.length=qs.length->(∀(i:Nat) (v:Value) (q:Nat×PV),vs[i]? =some v->qs[i]? =some q->RV (env x s hv w) v q.2)->
  xs.length=qs.length/\(∀r∈xs,r.length=sz)/\(∀v∈vs,v.cells.size=sz)/\(∀(i:Nat) (q:Nat×PV),qs[i]? =some q->q.1=k+i)/\
   ∀(i:Nat) (r:LP) (v:Value) (j:Nat) (u:PV),xs[i]? =some r->vs[i]? =some v->r[j]? =some u->RP (env x (a8 s ns) hv w).pc (v.cells.getD j undef) u
 |[],k,[],xs,b,hr,_,_,_,_=>by cases hr;simp
 |(i,u)::qs,k,v::vs,xs,b,hr,hs,hb,hl,hrv=>by
  simp only[ul]at hr;split at hr
  .rename_i hik
   cases hc:ei u with
   |none=>rw[hc]at hr;cases hr
   |some us=>
    rw[hc]at hr;simp only at hr;split at hr
    .rename_i hus
     cases hp:lg σ us with
     |none=>rw[hp]at hr;cases hr
     |some p=>
      cases hq:ul σ sz (k+1) qs with
      |none=>rw[hp,hq]at hr;cases hr
      |some q=>
       obtain⟨p1,p2⟩:=p;obtain⟨q1,q2⟩:=q;rw[hp,hq]at hr;simp only[b0c,b0t]at hr;obtain⟨rfl,rfl⟩:=hr;have hcs:=fu (hrv 0 v (i,u) rfl rfl) hc;obtain⟨hp1,hp2⟩:=ew (ns:=ns) h (λn hn=>hs n By) hp (λn hn=>hb n By);obtain⟨h1,h2,h3,h4,h5⟩:=ac4 h qs (k+1) vs hq (λn hn=>hs n By) (λn hn=>hb n By) Cg (λj v q hv hq=>hrv (j+1) v q Fu Cq);refine⟨Du,?_,?_,?_,?_⟩
       .intro r hr;rcases b0p.1 hr with rfl|hr
        .rw[hp1,hus.1]
        .exact h2 r hr
       .intro v' hv';rcases b0p.1 hv' with rfl|hv'
        .rw[hcs.1,hus.1]
        .exact h3 v' hv'
       .intro j q hjq
        cases j with
        |zero=>simp at hjq;subst hjq;exact hik
        |succ j=>have:=h4 j q Fb;omega
       .intro j r v' m u' hr hv' hu'
        cases j with
        |zero=>
         simp at hr hv';subst hr hv';have hm:m<us.length:=by rw[<-hp1];exact(dm.1 hu').1
         exact hp2 m us[m] u' (bq hm) hu' _ (hcs.2 m us[m] (bq hm))
        |succ j=>exact h5 j r v' m u' Fv (by simpa using hv') hu'
    .cases hr
  .cases hr
 |[],_,_::_,_,_,_,_,_,hl,_=>B0
 |_::_,_,[],_,_,_,_,_,hl,_=>B0
theorem acw: ∀{qs:List (Nat×PV)} {k:Nat} {xs:List LP} {b:LN},ul σ sz k qs=some (xs,b)->∀n∈b,∃B,ai σ n=some B
 |[],k,xs,b,h=>by cases h;simp
 |(i,u)::qs,k,xs,b,h=>by
  simp only[ul]at h;split at h
  .cases hc:ei u with
   |none=>rw[hc]at h;cases h
   |some us=>
    rw[hc]at h;simp only at h;split at h
    .cases hp:lg σ us with
     |none=>rw[hp]at h;cases h
     |some p=>
      cases hq:ul σ sz (k+1) qs with
      |none=>rw[hp,hq]at h;cases h
      |some q=>
       rw[hp,hq]at h;simp only[b0c,b0t]at h;obtain⟨_,rfl⟩:=h;intro n a;rcases b0j.1 a with a|a
       .exact mb hp n a
       .exact acw hq n a
    .cases h
  .cases h
theorem ri(l:List (Nat×Value))(k:Nat)(h: ∀i q,l[i]? =some q->q.1=k+i):l=((l.map (·.2)).zipIdx k).map λp=>(p.2,p.1):=by induction l generalizing k with|nil=>rfl|cons p l ih=>obtain⟨i,v⟩:=p;have h0:=h 0 (i,v) rfl;simp only[b07,b5w];rw[<-ih (k+1) λj q a=>by have:=h (j+1) q A6;omega];simp at h0;simp[h0]
theorem avi: ∀{us vs:LP} {a:LN},lg σ us=some (vs,a)->vs.length=us.length
 |[],vs,a,h=>by cases h;rfl
 |u::us,vs,a,h=>by
  simp only[lg]at h
  cases h1:pur σ u with
  |none=>rw[h1]at h;cases h
  |some p=>
   cases h2:lg σ us with
   |none=>rw[h1,h2]at h;cases h
   |some q=>
    rw[h1,h2]at h;simp only[b0c,b0t]at h;obtain⟨rfl,_⟩:=h;simp[avi h2]
theorem a8x{v:PV}(h:pur σ u=some (v,a)):fy v=true:=by cases u<;>simp only[pur]at h<;>(try (cases h;done))<;>(try (simp only[b0c,b0t]at h;obtain⟨rfl,_⟩:=h;rfl));(case fn f cs=>cases cs<;>simp only[pur]at h<;>cases h;rfl);case os n k=>split at h;{split at h;{simp only[b0c,b0t]at h;obtain⟨rfl,_⟩:=h;rfl};.cases h};.cases h
theorem aa4: ∀{us vs:LP} {a:LN},lg σ us=some (vs,a)->vs.all fy=true
 |[],vs,a,h=>by cases h;rfl
 |u::us,vs,a,h=>by
  simp only[lg]at h
  cases h1:pur σ u with
  |none=>rw[h1]at h;cases h
  |some p=>
   cases h2:lg σ us with
   |none=>rw[h1,h2]at h;cases h
   |some q=>
    rw[h1,h2]at h;simp only[b0c,b0t]at h;obtain⟨rfl,_⟩:=h;have c:pur σ u=some (p.1,p.2):=h1;have b:lg σ us=some (q.1,q.2):=h2;rw[List.all_cons,a8x c,aa4 b];rfl
theorem aok: ∀{qs:List (Nat×PV)} {k:Nat} {xs:List LP} {b:LN},ul σ sz k qs=some (xs,b)->xs.length=qs.length/\(∀r∈xs,r.length=sz)/\∀r∈xs,r.all fy=true
 |[],k,xs,b,h=>by cases h;simp
 |(i,u)::qs,k,xs,b,h=>by
  simp only[ul]at h;split at h
  .cases hc:ei u with
   |none=>rw[hc]at h;cases h
   |some us=>
    rw[hc]at h;simp only at h;split at h
    .rename_i hus
     cases hp:lg σ us with
     |none=>rw[hp]at h;cases h
     |some p=>
      cases hq:ul σ sz (k+1) qs with
      |none=>rw[hp,hq]at h;cases h
      |some q=>
       rw[hp,hq]at h;simp only[b0c,b0t]at h;obtain⟨rfl,_⟩:=h;obtain⟨c,d,e⟩:=aok hq;refine⟨Cl,λr a=> ?_,λr a=> ?_⟩
       .rcases b0p.1 a with rfl|a
        .rw[avi hp,hus.1]
        .exact d r a
       .rcases b0p.1 a with rfl|a
        .exact aa4 hp
        .exact e r a
    .cases h
  .cases h
theorem ae3{t e:Nat}{b:Array (Nat×Operand)}(N:o.op= .buildSlice t len b)
  (X:cw P t=some e) (D:dx P e=some sz) (h0:0<sz) (H:(az P e).isSome=true) (h:len=b.size) (K:len*sz<=16777216) (F:ul σ sz 0 (b.toList.map λp=>(p.1,ρ p.2))=some (xs,ns)) (hd:ai σ d=none):
  LOp P o ρ σ (.os d xs.length) (ej σ ns++[(d,.arr e sz false xs)]) (d::ns):=by
 obtain⟨B,y,G⟩:=aok F;have E:xs.length=len:=by rw[B,h];simp
 refine yn hd h0 y G (acw F) λx s a hv w hs Z l=> ?_;obtain⟨zs,H⟩:=b1y.1 H;obtain⟨it,z,U,S,h3⟩:=iz H
 let ps:=b.toList.map λp=>(p.1,a.eval p.2)
 obtain⟨k1,k2,T,R,O⟩:=ac4 (ns:=ns) Z _ 0 (ps.map (·.2)) F hs (λn W=>W) Eb (λi v q c f=>by
  simp only[ps,b66,b0s]at c f
  cases hp:b.toList[i]? with
  |none=>rw[hp]at f;cases f
  |some p=>
   rw[hp]at f c
   cases f
   cases c
   refine l p.2 ?_;simp only[N,Op.operands,b5x,b0z];simp;exact⟨p.1,Bs⟩)
 have C:ps=((ps.map (·.2)).zipIdx 0).map λp=>(p.2,p.1):=ri ps 0 λi q f=>by simp only[ps,b0s]at f;cases hp:b.toList[i]? with|none=>rw[hp]at f;cases f|some p=>rw[hp]at f;cases f;exact R i (p.1,ρ p.2) F0
 let zc:Array Value:=if len*sz=0 then #[]else z.cells
 obtain⟨arr,A,f2,f3,Q⟩:=abf (sz:=sz) (ps.map (·.2)) 0 ((Array.range (len*sz)).map (zc[· % zc.size]!)) T (by simp[ps,h]);have J:xs.length=len:=E;refine⟨arr,len,?_,Aa,?_,by rw[f2];simp,λi r j u k M=> ?_⟩
 .have hmap:(b.map λ(i,x)=>(i,a.eval x)).toList=ps:=Eb;have I:(zeroValue e).run P w= .ok z w:=(by simp[zeroValue,typeInfo,U,S]);simp only[execOp,N];rw[b0v];have V:(Instr.buildSlice t len (b.map λ(i,x)=>(i,a.eval x))).run P w= .ok (.slice (some ⟨w.heap.size,0,none⟩) len len) (w.alloc (.cells arr e)):=(by unfold Instr.buildSlice;simp only[b0v,run_underlying (bx X),b0w,eo D];rw[if_neg Av];rw[hmap,C];by_cases g:len*sz=0;{simp only[zc,g,b4i]at A;simp only[g,b4i,b0v,b1r,b0w,A];simp[newRow]};.simp only[zc,g,b25]at A;simp only[g,b25,b0v,I,b1r,b0w,A];simp[newRow]);rw[V,J];rfl
 .simp only[maxLen];have:=b3e len h0;omega
 .have hi:i<xs.length:=(dm.1 k).1;have Y:j<sz:=(by have:=(dm.1 M).1;rw[y r (b0e k)]at this;exact this);have m:i<(ps.map (·.2)).length:=(by simp[ps];omega);have c:(ps.map (·.2))[i]? =some ((ps.map (·.2))[i]'m):=bq m;have L:=Q i _ j c Y;rw[b1w]at L;have:=O i r _ j u k c M;rw[b1c]at this ⊢;rw[L];exact this
theorem asj{vs:List Value}(z:SimW x s hv w)(hs:s n=some (.cells cs))(y:vs.length=us.length)(D:off+us.length<=cs.length)
  (B: ∀i u,us[i]? =some u->RV (env x s hv w) (vs.getD i undef) u) (A: ∀v∈vs,v.oneCell'=true):
  ∃b w',hv n= .pointer (some ⟨b,0,none⟩)/\(storeCells ⟨b,off,none⟩ vs).run P w= .ok () w'/\SimW x (upd s n (some (.cells (cs.take off++us++cs.drop (off+us.length))))) hv w'/\
   Env.le (env x s hv w) (env x (upd s n (some (.cells (cs.take off++us++cs.drop (off+us.length))))) hv w'):=by obtain⟨b,t,d,m,r,c,hrr⟩:=z.box n _ hs;have g:=run_storeCells_at P b off t vs 0 d w r (by rw[c];omega) A;simp only[b13]at g;refine⟨b,_,m,g,?_⟩;have C:b<w.heap.size:=(b03.1 r).1;refine z.write (B':= .cells (cs.take off++us++cs.drop (off+us.length))) hs ⟨⟨_,rfl⟩,rfl⟩ (λ_ h=>h) rfl rfl rfl Ad (λk F o=>setRow_other w b k _ λe=>o (by rw[m,e];rfl)) λE q=> ?_;refine⟨b,t,_,m,setRow_heap w b d _ t _ r,?_,λi u a=> ?_⟩;{simp[c,y]};.rw[lc,bd];have l:(d.toList.take off).length=off:=(by simp[c];omega);have j:(cs.take off).length=off:=Ag;rw[b0m,b1q]at a;rw[b0m,b1q,l];rw[j]at a;by_cases f:i<off;{rw[if_pos f,b04,if_pos f]at a;rw[if_pos f,b04,if_pos f];have:=hrr i u a;simp only[b1c]at this;simpa using this.mono q};.rw[if_neg f,b1q]at a;rw[if_neg f,b1q,y];by_cases p:i - off<us.length;{rw[if_pos p]at a ⊢;have:=B _ u a;rw[bd]at this;exact this.mono q};.rw[if_neg p,b1k]at a;rw[if_neg p,b1k];rw[show off+us.length+(i - off - us.length)=i from Aa]at a ⊢;have:=hrr i u a;simp only[b1c]at this;simpa using this.mono q
theorem a6r(A:o.op= .store t y z)(M:ρ y= .ptr n off)(L:ai σ n=some (.cells cs))
  (O:ei (ρ z)=some us) (J:dx P t=some m) (d:us.length=m) (N:off+m<=cs.length) (k:us.all fy=true):
  LOp P o ρ σ .undef [(n,.cells (cs.take off++us++cs.drop (off+m)))] [n]:=by
 refine⟨Ad,λs hs x a S w V e E Q T=> ?_⟩;have r:s n=some (.cells cs):=(hs n Ad).trans L;have l:=e y Di;have C:=e z Di;rw[M]at l;obtain⟨_,b,R,I⟩:=l.ptr_inv;have c:=fu C O
 have U:=asj (P:=P) (vs:=(a.eval z).cells.toList) V r (us:=us) (off:=off) (by simpa using c.1) Aa (λi u j=>by have:=c.2 i u j;rw[b1c]at this;simpa [bd] using this)
  (λv p=>by
   obtain⟨i,j,q⟩:=b1f.1 p;have g:i<us.length:=by rw[<-c.1];simpa using j
   have H:=c.2 i us[i] (bq g)
   have K:(a.eval z).cells.getD i undef=v:=by
    rw[b1c];have:(a.eval z).cells[i]? =some v:=by rw[<-q];simp at j;simp[j]
    rw[this];rfl
   rw[K]at H;exact(j7 H (b06.1 k _ (b1g g))).1)
 obtain⟨W,G,f,B,D,F⟩:=U;rw[R]at f
 cases f
 unfold Oper.wp
 have h:(execOp a.eval o).run P w= .ok .skip G:=by
  simp only[execOp,A,I,Instr.storeAt,Instr.sureAddr];rw[b0v,b0v,b1r,b0w];unfold storeVar;rw[b0v,eo J];simp only[b0w];rw[if_neg (by rw[c.1,d];simp),B];rfl
 rw[h,b5p];rw[d]at D F;exact T undef S G D F (.undef _)
/- Operations on abstract values: stores into slices, append, make, and some small ones. -/
theorem kx{e:Nat}{a:List Value}(h:OwnM P w e sz v n a)(b:0<n): ∃g cap cur fz,v= .slice (some ⟨g,0,none⟩) n cap/\(fz=(0,0)\/axh P e/\fz=(cur.size,cur.size+1))/\w.heap[g]? =some (.cells cur e fz)/\n<=cap/\cap<=maxLen/\cur.size=cap*sz/\cur.toList.take (n*sz)=a:=by rcases h.2 with ⟨_,h0⟩|h;{omega};.exact h
theorem aqi{k e:Nat}{us':LP}(ho:o.op= .store t y z)(hy:ρ y= .oel n k i off)
  (hB:ai σ n=some (.arr e sz false xs)) (hk:k=xs.length) (hi:i<k) (A:ei (ρ z)=some us) (K:lg σ us=some (us',ns)) (d1:n∉ns) (hm:dx P t=some m) (F:us.length=m) (f0:off+m<=sz) (b1:us.all fy=true):
  LOp P o ρ σ .undef (ej σ ns++[(n,.arr e sz false (xs.set i ((xs.getD i []).take off++us'++(xs.getD i []).drop (off+m))))]) (n::ns):=by have O: ∀(δ ε:ASt) (s:St),app s (δ++ε)=app (app s δ) ε:=(by intro δ;induction δ with|nil=>intro ε s;rfl|cons p δ ih=>intro ε s;obtain⟨n,B⟩:=p;simp[app,ih]);refine⟨λp K=> ?_,λs hs x a hv w hW S e4 Q L=> ?_⟩;{rcases b0j.1 K with K|K;{obtain⟨n,L,rfl⟩:=b0z.1 K;simp[L]};.simp at K;subst K;simp};.have hsns: ∀n∈ns,s n=ai σ n:=λn L=>hs n (by simp[L]);have a4:s n=some (.arr e sz false xs):=(hs n Ad).trans hB;have W:=hW.shared (em s ns);have b4:app s (ej σ ns)=a8 s ns:=rt λn L=>(by obtain⟨B,hB⟩:=mb K n L;exact⟨B,(hsns n L).trans hB,.inl hB.symm⟩);have R:a8 s ns n=some (.arr e sz false xs):=(by simp[a8,d1,a4]);have c3:=S y C6;have e1:=S z C6;rw[hy]at c3;obtain⟨_,e',e8,e6,e5,h1,D,h3⟩:=c3.oel_arr a4;rw[a4]at h1;cases h1;obtain⟨b,c,hb,e2⟩:=h3 hk hi;have Y:=fu e1 A;obtain⟨a5,c6⟩:=ew (ns:=ns) hW hsns K (λn L=>L);obtain⟨h0,ys,d4,l,I,hrr⟩:=W.1.box n _ R;obtain⟨g,e9,f,fz,a6,b6,a7,b5,e3,N,d0⟩:=kx d4 Aa;rw[hb]at a6;cases a6;let vs:=(a.eval z).cells.toList;have Z:vs.length=m:=(by simp[vs];rw[Y.1,F]);have b9: ∀j u,us[j]? =some u->RV (env x s hv w) (vs.getD j undef) u:=λj u hj=>(by have:=Y.2 j u hj;rw[b1c]at this;simpa [vs,bd] using this);have a1: ∀v∈vs,v.oneCell'=true:=λv d3=>(by obtain⟨j,hj,d2⟩:=b1f.1 d3;have M:j<us.length:=Aa;have h1:=b9 j us[j] (bq M);have D:vs.getD j undef=v:=(by rw[bd,bq hj,d2];rfl);rw[D]at h1;exact(j7 h1 (b06.1 b1 _ (b1g M))).1);have G:i<xs.length:=Aa;have T:(xs.getD i []).length=sz:=l _ (b0e (by rw[bd,bq G];rfl:xs[i]? =some (xs.getD i [])));have e7:i*sz+(off+m)<=xs.length*sz:=(by have:(i+1)*sz<=xs.length*sz:=b08 _ G;rw[b2a]at this;omega);have c1:xs.length*sz<=c*sz:=b08 _ b5;have b2:=dj P b (i*sz+off) e fz vs 0 f w a7 (tz b6) (by rw[N,Z];omega) a1;simp only[b13]at b2;let row':=(xs.getD i []).take off++us'++(xs.getD i []).drop (off+m);have U:us'.length=m:=(by rw[a5,F]);have H:row'.length=sz:=(by simp only[row',b0a,b0i,b1b,T,U];omega);let cur':=(f.toList.take (i*sz+off)++vs++f.toList.drop (i*sz+off+vs.length)).toArray;have J:cur'.size=f.size:=(by simp[cur',Z];omega);have b3:=W.1.write (w':=w.setRow b cur') (B':= .arr e sz false (xs.set i row')) R (by simp[Box.keep,Box.dim]) (λoff h=>h) rfl rfl rfl Ad (λk hk c7=>setRow_other w b k _ λe=>c7 (by rw[hb,e];rfl)) λE hE=>(by have a0: ∀j,cur'[j]? =if j<i*sz+off then f[j]? else if j<i*sz+off+m then vs[j - (i*sz+off)]? else f[j]?:=λj=>(by simp only[cur',b3t];rw[b0m,b1q];have a3:(f.toList.take (i*sz+off)).length=i*sz+off:=(by simp[N];omega);rw[a3];by_cases D:j<i*sz+off;{rw[if_pos D,if_pos D,b04,if_pos D];simp};.rw[if_neg D,if_neg D,b1q,Z];by_cases h3:j<i*sz+off+m;{rw[if_pos h3,if_pos Aa]};.rw[if_neg h3,if_neg Aa,b1k,show i*sz+off+m+(j - (i*sz+off) - m)=j from Aa];simp);refine⟨h0,cur'.toList.take (xs.length*sz),?_,?_,?_,λp r j u d A=> ?_⟩;{rw[b15];exact⟨by simp[J,N,c1],.inr ⟨b,c,cur',fz,hb,by rw[J];exact b6,setRow_heap w b f cur' e _ a7,b5,e3,by rw[J,N],rfl⟩⟩};{intro r d;rcases b2f d with d|d;{exact l r d};.rw[d,H]};{intro r d;rcases b2f d with d|d;{exact I r d};.have hro:=I _ (b0e (by rw[bd,bq G];rfl:xs[i]? =some (xs.getD i [])));rw[d];simp only[row',List.all_append,aa4 K,b6s,b0l];exact⟨b06.2 λu A=>b06.1 hro u (b1e A),b06.2 λu A=>b06.1 hro u (b1t A)⟩};.have a5:p<xs.length:=F9;have e0:r.length=sz:=(by rcases b2f (b0e d)with d|d;{exact l r d};.rw[d,H]);have c5:j<sz:=(by have:=(dm.1 A).1;rwa [e0]at this);rw[b2x]at d;have b8:=jr a5 c5;have V:(cur'.toList.take (xs.length*sz)).getD (p*sz+j) undef=(cur'[p*sz+j]?).getD undef:=(by rw[bd,b04,if_pos b8];simp);have C: ∀q j' u',xs[q]? =some r\/True->∀r',xs[q]? =some r'->r'[j']? =some u'->RP E.pc ((f[q*sz+j']?).getD undef) u':=λq j' u' _ r' X c0=>(by have hq:q<xs.length:=(dm.1 X).1;have M:j'<sz:=(by have:=(dm.1 c0).1;rw[l r' (b0e X)]at this;exact this);have h4:=hrr q r' j' u' X c0;rw[<-d0,bd,b04,if_pos (jr hq M)]at h4;simpa using h4.mono hE.pc);rw[V,a0];by_cases a2:i=p;{subst a2;rw[if_pos rfl,if_pos G]at d;cases d;have hg:xs[i]? =some (xs.getD i []):=(by rw[bd,bq G];rfl);simp only[row']at A;rw[b0m,b1q]at A;have a3:((xs.getD i []).take off).length=off:=(by rw[b0i,T];omega);rw[a3]at A;by_cases D:j<off;{rw[if_pos D,b04,if_pos D]at A;rw[if_pos Aa];exact C i j u (.inr trivial) _ hg A};.rw[if_neg D,b1q,U]at A;rw[if_neg Aa];by_cases h3:j<off+m;{rw[if_pos Aa]at A;rw[if_pos Aa,show i*sz+j - (i*sz+off)=j - off from Aa];have a9:j - off<us.length:=Aa;have h5:=c6 (j - off) us[j - off] u (bq a9) A _ (b9 (j - off) us[j - off] (bq a9));rw[bd]at h5;exact h5.mono hE.pc};.rw[if_neg Aa,b1k,show off+m+(j - off - m)=j from Aa]at A;rw[if_neg Aa];exact C i j u (.inr trivial) _ hg A};.rw[if_neg a2]at d;have c2:p*sz+j<i*sz+off\/i*sz+off+m<=p*sz+j:=(by rcases b4r a2 with h|h;{right;have:(i+1)*sz<=p*sz:=b08 _ h;rw[b2a]at this;omega};.left;have:(p+1)*sz<=i*sz:=b08 _ h;rw[b2a]at this;omega);rcases c2 with h|h;{rw[if_pos h];exact C p j u (.inr trivial) r d A};.rw[if_neg Aa,if_neg Aa];exact C p j u (.inr trivial) r d A);unfold Oper.wp;have b7:(execOp a.eval o).run P w= .ok .skip (w.setRow b cur'):=(by simp only[execOp,ho,e2,Instr.storeAt,Instr.sureAddr];rw[b0v,b0v,b1r,b0w];unfold storeVar;rw[b0v,eo hm];simp only[b0w];rw[if_neg (by rw[Y.1,F];simp),b2];rfl);rw[b7,b5p];refine L undef hv _ ?_ ?_ (.undef _);{rw[O,b4];exact b3.1};.rw[O,b4];exact W.2.trans b3.2
theorem dv(size m:Nat)(a:Addr)(l c:Nat)(b:List Value)(d:b.length=m*size)(h: ∀j u,b[j]? =some u->w.cell? (a.add j)=some u):
  (Builtin.firstCells size m (.slice (some a) l c)).run P w= .ok b.toArray w:=by have:=run_loadCells_list (P:=P) w a b h;rw[d]at this;exact this
theorem bn8(K: ∀a v,E.pc a v->w.cell? a=some v)(F:E.pc=(env x s hv w).pc)(h:RP E.pc v (.vs ys))(D: ∀y∈ys,y.length=sz):
  ∃news,Src P w sz v ys.length news/\∀i r j u,ys[i]? =some r->r[j]? =some u->RP E.pc (news.getD (i*sz+j) undef) u:=by
 obtain⟨a,c,b,U,rfl,N,hs,z,M,J⟩:=h.vs_inv;rcases b2i ys.length with h0|h0
 .have hys:ys=[]:=b0u h0;subst hys;refine⟨[],⟨λL=>rfl,?_,?_,Ad,Ad⟩,Ad⟩
  .cases a<;>simp[Builtin.firstCells,loadCells,loadCellsFrom]
  .cases a<;>simp[Builtin.firstCells,loadCells,loadCellsFrom]
 .obtain⟨ad,rfl,hA'⟩:=M h0
  have H:b=sz:=by
   have I:=b1g h0;rw[<-hs _ I,D _ I]
  subst H
  have k: ∀p,p<ys.length*b->∃r u,ys[p/b]? =some r/\r[p % b]? =some u:=λp e=>by
   have m:0<b:=by
    rcases b2i b with h|h
    .subst h;simp at e
    .exact h
   have n:p/b<ys.length:=b52 (by rw[b3a];exact e);have o:p % b<(ys[p/b]).length:=by rw[hs _ (b1g n)];exact b6m _ m
   exact⟨ys[p/b],(ys[p/b])[p % b],bq n,bq o⟩
  let news:=(List.range (ys.length*b)).map λp=>U (p/b) (p % b)
  have g: ∀p u,news[p]? =some u->p<ys.length*b/\u=U (p/b) (p % b):=λp u e=>by
   simp only[news,b0s]at e
   cases hq:(List.range (ys.length*b))[p]? with
   |none=>rw[hq]at e;cases e
   |some q=>
    have d:p<ys.length*b:=Fs
    rw[b2z d]at hq
    cases hq
    rw[b2z d]at e
    cases e
    exact⟨d,rfl⟩
  have f: ∀p u,news[p]? =some u->w.cell? (ad.add p)=some u:=λp u e=>by
   obtain⟨d,rfl⟩:=g p u e;obtain⟨r,q,n,o⟩:=k p d;have:=K _ _ (hA' _ r _ q n o)
   rwa [b3a,b5a]at this
  refine⟨news,⟨λL=>rfl,dv b _ ad _ c news (by simp[news]) f,dv b _ ad _ c news (by simp[news]) (λp u e=>by simpa using f p u e),by simp[news],λu C=> ?_⟩,λi r j u l C=> ?_⟩
  .obtain⟨p,e,hpu⟩:=b1f.1 C;obtain⟨d,rfl⟩:=g p u (by rw[bq e,hpu]);obtain⟨r,q,n,o⟩:=k p d;have t:=J _ r _ q n o;rw[F]at t;exact(j7 (.pure t) (b06.1 (z r (b0e n)) q (b0e o))).1
  .have hi:i<ys.length:=(dm.1 l).1
   have G:j<b:=by
    have:=(dm.1 C).1;rw[hs r (b0e l)]at this;exact this
   have d:=jr hi G;have m:0<b:=Aa
   have A:(i*b+j)/b=i:=by rw[b3a,Nat.mul_add_div m,Nat.div_eq_of_lt G,b13]
   have B:(i*b+j) % b=j:=by rw[b3a,b57,b3y G]
   have:news.getD (i*b+j) undef=U i j:=by
    rw[bd];simp only[news,b0s,b2z d,b02,b1o,A,B]
   rw[this];exact J i r j u l C
/- Operations on abstract values: append, make, and some small ones. -/
def aam(P:Program)(E:Env)(w:World)(sz:Nat)(v:Value)(ys:List LP):Prop:=
 (∀y∈ys,y.length=sz)/\(∀y∈ys,y.all fy=true)/\∃news,Src P w sz v ys.length news/\∀i r j u,ys[i]? =some r->r[j]? =some u->RP E.pc (news.getD (i*sz+j) undef) u
theorem va(h:RP (env x s hv w).pc v (.vs ys))(d: ∀y∈ys,y.length=sz):aam P (env x s hv w) w sz v ys:=by obtain⟨a,c,f,U,_,g,hs,b,_⟩:=h.vs_inv;exact⟨d,b,bn8 (E:=env x s hv w) (λa v e=>e.1) rfl h d⟩
theorem au5(I:SimW x s hv w){k e:Nat}(hs:s n=some (.arr e sz sh xs))(E:k=xs.length)(i:RV (env x s hv w) v (.os n k)):
  aam P (env x s hv w) w sz v xs:=by obtain⟨_,M,J,D,H,m,L,G⟩:=i.os_arr hs;rw[hs]at m;cases m;rw[G E];obtain⟨h0,d,b,y,a,q⟩:=I.box n _ hs;refine⟨y,a,d,?_,q⟩;have c: ∀u∈d,u.oneCell'=true:=λu B=>(by obtain⟨p,o,l⟩:=b1f.1 B;have j:p<xs.length*sz:=(by rw[<-b.1];exact o);have h:p/sz<xs.length:=b52 (by rw[b3a];exact j);have A:p % sz<(xs[p/sz]).length:=(by rw[y _ (b1g h)];exact b6m _ h0);have t:=q (p/sz) _ (p % sz) _ (bq h) (bq A);rw[b3a,b5a,bd,bq o,l]at t;exact(j7 (.pure t) (b06.1 (a _ (b1g h)) _ (b1g A))).1);rcases b.2 with ⟨f,z⟩|⟨g,C,F,K,f,_⟩;{have hx:d=[]:=b0u (by rw[b.1,z,b67]);subst hx;rw[f,z];exact⟨λ_=>rfl,rfl,rfl,Ad,c⟩};.rw[f];rw[f]at b;have r:=b.cells (g:=g) rfl;exact⟨λ_=>rfl,dv sz _ _ _ _ d b.1 r,dv sz _ _ _ _ d b.1 r,b.1,c⟩
theorem ama:aam P (env x s hv w) w 1 (.string ⟨l.toArray⟩) (cz l):=by
 have a:(cz l).length=l.length:=Bz
 have e: ∀c:World,(Builtin.firstCells 1 l.length (.string ⟨l.toArray⟩)).run P c= .ok (l.map λb=>Value.int .u8 (b.toNat:Int)).toArray c:=λc=>by simp only[Builtin.firstCells,b1r];congr 1;have:(ByteArray.extract ⟨l.toArray⟩ 0 l.length).data=l.toArray:=(by simp[b60]);rw[this];simp
 refine⟨Bz,by simp[cz,fy],l.map λb=> .int .u8 (b.toNat:Int),⟨λc=>by simp[Builtin.lenOf,n4,a],by rw[a];exact e w,by rw[a];exact e w.drew,Dw,by simp[Value.oneCell']⟩,λi r j u f d=> ?_⟩;obtain⟨b,g,rfl⟩: ∃b,l[i]? =some b/\[PV.int .u8 (b.toNat:Int)]=r:=by simpa [cz] using f
 have h:j=0:=by have:=(dm.1 d).1;simp at this;exact this
 subst h;simp at d;subst d
 have:(l.map λb=>Value.int .u8 (b.toNat:Int)).getD (i*1+0) undef= .int .u8 (b.toNat:Int):=by rw[bd];simp[g]
 rw[this];exact .int _ _
theorem ag0:aam P (env x s hv w) w sz (.slice none 0 0) []:=
 ⟨Ad,Ad,[],⟨λ_=>rfl,rfl,rfl,Ad,Ad⟩,Ad⟩
theorem lf{a zs:List Value}(h:m<a.length):(a++zs).getD m undef=a.getD m undef:=by rw[bd,b09 h,<-bd]
theorem um{zs:List LP}{a:List Value}(f:a.length=xs.length*sz)(g: ∀i x j u,xs[i]? =some x->x[j]? =some u->RP pc (a.getD (i*sz+j) undef) u)
  (e: ∀x∈xs,x.length=sz) (c: ∀i x j u,zs[i]? =some x->x[j]? =some u->RP pc (news.getD (i*sz+j) undef) u):
  ∀i x j u,(xs++zs)[i]? =some x->x[j]? =some u->RP pc ((a++news).getD (i*sz+j) undef) u:=by intro i x j u hx b;rw[b1q]at hx;by_cases h:i<xs.length;{rw[if_pos h]at hx;have k:j<sz:=(by have:=(dm.1 b).1;rw[e x (b0e hx)]at this;exact this);rw[lf (by rw[f];exact jr h k)];exact g i x j u hx b};.rw[if_neg h]at hx;have d:a.length<=i*sz+j:=(by rw[f];have:xs.length*sz<=i*sz:=b08 _ Aa;omega);rw[bd,b0y d,<-bd,f];have:i*sz+j - xs.length*sz=(i - xs.length)*sz+j:=(by rw[b5l];have:xs.length*sz<=i*sz:=b08 _ Aa;omega);rw[this];exact c _ x j u hx b
structure AppT(P:Program)(t tx e sz bytes:Nat):Prop where
 ht:cw P t=some e
 hsz:dx P e=some sz
 hby:bytesOf P e=some bytes
 hz: ∃zs,az P e=some zs/\zs.length=sz
 h0:0<sz
 hb0:0<bytes
 htx:ay P tx=true\/je P tx=true
theorem AppT.run{t e ty:Nat}(h:AppT P t tx e sz bytes){xs:List Value}(i:OwnM P w e sz v n xs){x:Value}(hs:Src P w sz x m news)(a:(n+m)*bytes<=140737488355328):
  ∃v' w',(Builtin.append_ #[t,tx] ty #[v,x]).run P w= .ok v' w'/\OwnM P w' e sz v' (n+m) (xs++news)/\w.grownBy w' v.ownBlock/\
   (blk v'=blk v\/∃b,blk v'=some b/\w.heap.size<=b)/\(m=0->v'=v)/\
   ∀b j u,blk v=some b->j<n*sz->w.cell? ⟨b,j,none⟩=some u->w'.cell? ⟨b,j,none⟩=some u:=by obtain⟨D,B,f⟩:=h.hz;obtain⟨C,z,o,y,A⟩:=iz B;have c:=h.hsz;have g:=h.hby;simp only[dx,o,b02,b0c]at c;simp only[bytesOf,o,b02,b0c]at g;have r: ∃d,P.underlying tx=some d/\∀k,d≠ .int k:=(by rcases h.htx with p|p;{obtain⟨e',he'⟩:=b1y.1 p;exact⟨_,bx he',λk q=>by cases q⟩};.exact⟨_,jd p,λk q=>by cases q⟩);obtain⟨d,l,s⟩:=r;exact av8 t tx ty e d C z sz bytes (bx h.ht) l s o y c g (by rw[<-A]at f;simpa using f) h.h0 h.hb0 v n xs i x m news hs a
theorem ai7{t e:Nat}{k:Nat}(T:o.op= .call {callee:= .builtin .append,args:= #[y,z],argTypes:= #[t,tx]})
  (hT:AppT P t tx e sz bytes) (hy:ρ y= .os n k) (hB:ai σ n=some (.arr e sz sh xs)) (S:k=xs.length) (h:(xs.length+ys.length)*bytes<=140737488355328)
  (G: ∀(s:St),(∀m∈F,s m=ai σ m)->∀(x:Ctx P) hv w v,SimW x s hv w->RV (env x s hv w) v (ρ z)->aam P (env x s hv w) w sz v ys):
  LOp P o ρ σ (.os n (k+ys.length)) [(n,.arr e sz sh (xs++ys))] (n::F):=by refine⟨Ad,λs hs x a hv w W l Y Q M=> ?_⟩;have f:s n=some (.arr e sz sh xs):=(hs n Ad).trans hB;have D:=l y (by simp[T,Op.operands,Call.operands]);have V:=l z (by simp[T,Op.operands,Call.operands]);rw[hy]at D;obtain⟨_,e',a3,a1,a0,h1,h2,h3⟩:=D.os_arr f;rw[f]at h1;cases h1;have J:=h3 S;obtain⟨X,U,B,q,O⟩:=G s (λm hm=>hs m Dg) x hv w _ W V;obtain⟨h0,vs,p,A,N,I⟩:=W.box n _ f;obtain⟨v',w',C,k1,k2,k3,k4,k5⟩:=hT.run (ty:=o.type) p q h;have hG:=W.grow (zs:=ys) (v':=v') f k2 k5 k3 (λG=>k4 (by simp[G])) λE Z=>(by refine⟨h0,vs++B,Ee,?_,?_,?_⟩;{intro r b;rcases b0j.1 b with b|b;{exact A r b};.exact X r b};{intro r b;rcases b0j.1 b with b|b;{exact N r b};.exact U r b};.exact um p.1 (λi r j u b R=>(I i r j u b R).mono Z.pc) A (λi r j u b R=>(O i r j u b R).mono Z.pc));unfold Oper.wp;have L:(execOp a.eval o).run P w= .ok (.value v') w':=(by simp[execOp,T,resolve,invoke,builtin,J,C]);rw[L,b1p];have d: ∃a c,v'= .slice a (k+ys.length) c:=(by rcases k1.2 with ⟨K,G⟩|⟨g,H,a2,fz,K,_⟩;{exact⟨none,0,by rw[K,show k+ys.length=0 from Aa]⟩};.exact⟨_,H,by rw[K,S]⟩);refine M v' _ w' hG.1 hG.2 (.os ⟨d,.arr e sz sh (xs++ys),sz,_,Bj,rfl,?_,λ_=>Ad⟩);rw[b0a,S];exact b0f _
theorem aby{t e:Nat}(R:o.op= .call {callee:= .builtin .append,args:= #[y,z],argTypes:= #[t,tx]})
  (Z:AppT P t tx e sz bytes) (hy:ρ y= .nils) (hd:ai σ d=none) (k:ys.length*bytes<=140737488355328)
  (U: ∀(s:St),(∀m∈F,s m=ai σ m)->∀(x:Ctx P) hv w v,SimW x s hv w->RV (env x s hv w) v (ρ z)->aam P (env x s hv w) w sz v ys):
  LOp P o ρ σ (.os d ys.length) [(d,.arr e sz false ys)] (d::F):=by
 refine⟨Ad,λs hs x a hv w hW l W Q L=> ?_⟩;have M:s d=none:=(hs d Ad).trans hd;have D:=l y Fg;have T:=l z Fg;rw[hy]at D;have I:=D.nils_inv;obtain⟨V,S,q,p,N⟩:=U s (λm hm=>hs m Dg) x hv w _ hW T;obtain⟨G,Y,C,O,A,k3,k4,k5⟩:=Z.run (ty:=o.type) (OwnM.nil P w e sz) p (by simpa using k);simp only[b1w,b1u]at O
 have X:=hW.new (hd:=G) (B:= .arr e sz false ys) M A.os A.tape A.output A.size (λb n=>A.block b n (by simp[Value.ownBlock])) (λb n=>by
  rcases k3 with h|⟨b',h,h'⟩
  .rw[h]at n;cases n
  .rw[h]at n;cases n;exact h') λE hE=>⟨Z.h0,q,O,V,S,λi r j u hr hu=>(N i r j u hr hu).mono hE.pc⟩
 unfold Oper.wp
 have K:(execOp a.eval o).run P w= .ok (.value G) Y:=by simp[execOp,R,resolve,invoke,builtin,I,C]
 rw[K,b1p]
 have f: ∃a c,G= .slice a ys.length c:=by rcases O.2 with ⟨J,U⟩|⟨g,H,a0,fz,J,_⟩;{exact⟨none,0,by rw[J,U]⟩};.exact⟨_,H,J⟩
 exact L G _ Y X.1 X.2 (.os ⟨f,.arr e sz false ys,sz,_,Bj,rfl,b0f _,λ_=>Ad⟩)
theorem AppT.und{t e:Nat}(h:AppT P t tx e sz bytes): ∃d,P.underlying tx=some d/\∀k,d≠ .int k:=by rcases h.htx with b|b;{obtain⟨e',he'⟩:=b1y.1 b;exact⟨_,bx he',λk a=>by cases a⟩};.exact⟨_,jd b,λk a=>by cases a⟩
theorem RV.vx_inv(h:RV E v (.vx xs)): ∃a n,v= .slice a n n/\RP E.pc v (.vs xs):=by cases h with|pure hq=>cases hq|vx hv h=>exact⟨_,_,hv,h⟩
theorem ajy{t e:Nat}(ho:o.op= .call {callee:= .builtin .append,args:= #[y,z],argTypes:= #[t,tx]})
  (C:AppT P t tx e sz bytes) (hy:ρ y= .vx xs) (hd:ai σ d=none) (a4: ∀x∈xs,x.length=sz) (a5:0<ys.length) (l:(xs.length+ys.length)*bytes<=140737488355328)
  (Z: ∀(s:St),(∀m∈F,s m=ai σ m)->∀(x:Ctx P) hv w v,SimW x s hv w->RV (env x s hv w) v (ρ z)->aam P (env x s hv w) w sz v ys):
  LOp P o ρ σ (.os d (xs.length+ys.length)) [(d,.arr e sz false (xs++ys))] (d::F):=by
 refine⟨Ad,λs hs x a hv w hW q b4 Q T=> ?_⟩;have a9:s d=none:=(hs d Ad).trans hd;have N:=q y A7;have b3:=q z A7;rw[hy]at N;obtain⟨a0,n0,A,b2⟩:=N.vx_inv;obtain⟨G,a7,n,f,S⟩:=va b2 a4;obtain⟨a1,X,p,J,b1⟩:=Z s (λm hm=>hs m Dg) x hv w _ hW b3
 have Y:n0=xs.length:=by have D:=f.len w;rw[A]at D;simpa [Builtin.lenOf] using D
 subst Y;rw[A]at f;obtain⟨zs,W,H⟩:=C.hz;obtain⟨it,zv,D,h2,h3⟩:=iz W;have K:=C.hsz;have M:=C.hby;simp only[dx,D,b02,b0c]at K;simp only[bytesOf,D,b02,b0c]at M;obtain⟨de,a2,U⟩:=C.und;obtain⟨R,w',L,k1,I,b0,k3,k4⟩:=apn t tx o.type e de it zv sz bytes (bx C.ht) a2 U D h2 K M (by rw[<-h3]at H;simpa using H) C.hb0 a0 xs.length n f _ ys.length a5 p J l
 have hN:=hW.new (hd:=R) (B:= .arr e sz false (xs++ys)) a9 I.os I.tape I.output I.size (λb O=>I.block b O Ad) (λb O=>by
  rw[k3]at O;cases O;exact k4) λE hE=>⟨C.h0,n++p,Ee,by
   intro x hx;rcases b0j.1 hx with h|h
   .exact G x h
   .exact a1 x h,by
   intro x hx;rcases b0j.1 hx with h|h
   .exact a7 x h
   .exact X x h,um f.length (λi r j u V hu=>(S i r j u V hu).mono hE.pc) G (λi r j u V hu=>(b1 i r j u V hu).mono hE.pc)⟩
 unfold Oper.wp
 have a6:(execOp a.eval o).run P w= .ok (.value R) w':=by simp[execOp,ho,resolve,invoke,builtin,A,L]
 rw[a6,b1p]
 have k: ∃a c,R= .slice a (xs.length+ys.length) c:=by rcases k1.2 with ⟨hq,Z⟩|⟨g,a3,b5,fz,hq,_⟩;{exact⟨none,0,by rw[hq,Z]⟩};.exact⟨_,a3,hq⟩
 exact T R _ w' hN.1 hN.2 (.os ⟨k,.arr e sz false (xs++ys),sz,_,Bj,rfl,Ad,λ_=>Ad⟩)
theorem ae4{t e:Nat}(k:o.op= .call {callee:= .builtin .append,args:= #[y,z],argTypes:= #[t,tx]})
  (j:AppT P t tx e sz bytes) (q:ρ y= .vx xs)
  (p: ∀(s:St),(∀m∈F,s m=ai σ m)->∀(x:Ctx P) hv w v,SimW x s hv w->RV (env x s hv w) v (ρ z)->aam P (env x s hv w) w sz v []):
  LOp P o ρ σ (.vs xs) [] F:=by refine ar λs hs x a hv w u b=> ?_;have g:=b y (by simp[k,Op.operands,Call.operands]);have n:=b z (by simp[k,Op.operands,Call.operands]);rw[q]at g;obtain⟨A,r,d,i⟩:=g.vx_inv;obtain⟨_,_,f,c,_⟩:=p s hs x hv w _ u n;obtain⟨B,h,l⟩:=j.und;refine⟨a.eval y,?_,.pure i⟩;rw[d];simp[execOp,k,resolve,invoke,builtin,d,alk t tx o.type e B sz (bx j.ht) h l j.hsz A r _ f c]
def aap:PV->PV
 | .nils=> .vs []
 |u=>u
def aeu:Option Box->PV->PV
 |some _,u=>u
 |none,u=>aap u
theorem awa(b:Box)(l:LP):l.map (aeu (some b))=l:=by simp[show aeu (some b)=id from rfl]
theorem awq(l:LP):l.map (aeu none)=l.map aap:=by rw[show aeu none=aap from funext λu=>rfl]
def a40(P:Program)(t:TypeId)(dst:Option Nat)(σ:ASt)(u v:PV)(K:KT):Prop:=
 match u,v,dst with
 | .int k1 l,.int k2 c,some d=> ∃e sz zs bytes,cw P t=some e/\dx P e=some sz/\bytesOf P e=some bytes/\az P e=some zs/\zs.length=sz/\zs.all fy=true/\0<sz/\0<=l/\l<=c/\(bytes:Int)*c<=140737488355328/\c<=140737488355328/\ai σ d=none/\
   K (.os d l.toNat) [(d,.arr e sz false (List.replicate l.toNat (zs.map (aeu (ai σ (900000+d))))))] [d]
 |_,_,_=>False
theorem a1d(a:Addr->Value->Prop)(v:Value)(h:fy (adf v)=true):RP a v (aap (adf v)):=by
 unfold adf at h ⊢;split<;>first|exact .bool _|exact .int _ _|exact .nilp|exact .nilm|exact .nilf|exact .nili|skip
 .rename_i s;exact RP.str s.data.toList
 .exact .vs (sz:=0) (λ_ _=>undef) rfl (b0f _) Ad Ad Ad Ad
 .simp_all [fy]
theorem bey(o:Option Box)(a:Addr->Value->Prop)(v:Value)(h:fy (adf v)=true):RP a v (aeu o (adf v)):=by cases o with|none=>exact a1d a v h|some b=>show RP a v (adf v);unfold adf at h ⊢;(split<;>first|exact .bool _|exact .int _ _|exact .nilp|exact .nilm|exact .nilf|exact .nili|exact .nils|skip);{rename_i s;exact RP.str s.data.toList};.simp_all [fy]
theorem amn(S:o.op= .makeSlice t y z)(h:a40 P t o.dst σ (ρ y) (ρ z) K): ∃u δ F,LOp P o ρ σ u δ F/\K u δ F:=by
 unfold a40 at h;split at h
 .rename_i u v dst k1 l k2 c d hy hz hd;obtain⟨e,sz,I,n,h1,h2,h3,h4,J,B,h6,h7,X,h9,Y,L,Q⟩:=h;obtain⟨U,f,R,z2,M⟩:=iz h4;have A:f.cells.size=sz:=by rw[<-M]at J;simpa using J
  have D: ∀u∈I,fy (aeu (ai σ (900000+d)) u)=true:=λu b=>by have:=b06.1 B u b;cases ai σ (900000+d)<;>cases u<;>simp_all [aeu,aap,fy]
  have W:=yn (P:=P) (o:=o) (ρ:=ρ) (σ:=σ) (d:=d) (e:=e) (sz:=sz) (xs:=List.replicate l.toNat (I.map (aeu (ai σ (900000+d))))) (ns:=[]) L h6 (by simp[J]) (by
    intro x hx;rw[b18 hx,List.all_map];exact b06.2 λu b=>D u b) Ad (λx s a hv w hs hW g=>by
   have H:=g y (by simp[S,Op.operands]);have E:=g z (by simp[S,Op.operands]);rw[hy]at H;rw[hz]at E;have O:U.bytes=n:=by simpa [bytesOf,R] using h3
   have N:U.size=sz:=by simpa [dx,R] using h2
   have hr:=run_make (P:=P) w t e U f (bx h1) R z2 k1 k2 l c h7 X (by rw[O];omega) Aa;refine⟨madeCells f.cells (c.toNat*sz),c.toNat,?_,?_,?_,by simp[size_madeCells],λi r j u p b=> ?_⟩
   .simp only[execOp,S,H.int_inv,E.int_inv];rw[b0v,hr,N];simp
   .simp;omega
   .simp only[maxLen];omega
   .have hm:=b0e p;have hrr:=b18 hm;subst hrr;have hi:i<l.toNat:=by have:=(dm.1 p).1;simpa using this
    have V:j<sz:=by have:=(dm.1 b).1;simpa [J] using this
    rw[b0s]at b
    cases hzj:I[j]? with
    |none=>rw[hzj]at b;cases b
    |some q=>
     rw[hzj]at b
     cases b
     rw[<-M,b0s]at hzj
     cases hcj:f.cells.toList[j]? with
     |none=>rw[hcj]at hzj;cases hzj
     |some cv=>
      rw[hcj]at hzj
      cases hzj
      have T:i*sz+j<c.toNat*sz:=jr Aa V
      have m:(madeCells f.cells (c.toNat*sz)).getD (i*sz+j) undef=cv:=by
       have G:(i*sz+j) % f.cells.size=j:=by rw[A,b3a,b57,b3y V]
       have k:f.cells[j]? =some cv:=by simpa using hcj
       have C:j<f.cells.size:=by rw[A];exact V
       simp only[madeCells,b1c,b6c,b7k,T,b4i,b02,b1o,G];rw[b11 C]at k;simpa [C] using k
      rw[m]
      have Z:adf cv∈I:=by
       rw[<-M];exact b0z.2 ⟨cv,b0e hcj,rfl⟩
      exact bey _ _ _ (b06.1 B _ Z))
  rw[b68]at W;exact⟨_,_,_,W,by simpa [ej] using Q⟩
 .exact h.elim
def rg(P:Program)(t:TypeId)(u i:PV)(K:KT):Prop:=
 match u,i with
 | .agg cs,.int _ n=> ∃len e,aae P t=some (len,e)/\lp P e=some false/\dx P e=some 1/\0<=n/\n<len/\n<cs.length/\K (cs.getD n.toNat .undef) [] []
 | .str l,.int _ n=>je P t=true/\0<=n/\n<l.length/\K (.int .u8 ((l.getD n.toNat 0).toNat:Int)) [] []
 |_,_=>False
theorem ai1(f:o.op= .index t y z)(h:rg P t (ρ y) (ρ z) K): ∃u δ F,LOp P o ρ σ u δ F/\K u δ F:=by unfold rg at h;split at h;{rename_i cs k n hy hz;obtain⟨v,e,i,m,r,p,D,I,E⟩:=h;refine⟨_,_,_,ar λs hs x a C w G b=> ?_,E⟩;have d:=b y Bg;have c:=b z Bg;rw[hy]at d;rw[hz]at c;obtain⟨q,j,H,A⟩:=d.agg_inv;have g:n.toNat<q.size:=Aa;refine⟨q.getD n.toNat undef,?_,A n.toNat _ Bw⟩;simp[execOp,f,j,c.int_inv,Instr.index,run_underlying (ahn i),asIntOf,p,D,eo r,part,ka m,g]};{rename_i l k n hy hz;obtain⟨i,m,r,p⟩:=h;refine⟨_,_,_,ar λs hs x a C w G b=> ?_,p⟩;have d:=b y Bg;have c:=b z Bg;rw[hy]at d;rw[hz]at c;have g:n.toNat<l.length:=Aa;refine⟨.int .u8 ((l.getD n.toNat 0).toNat:Int),?_,.pure (.int _ _)⟩;have B:(⟨l.toArray⟩:ByteArray)[n.toNat]? =some (l.getD n.toNat 0):=(by have:n.toNat<(⟨l.toArray⟩:ByteArray).size:=(by rw[n4];exact g);rw[getElem?_pos (⟨l.toArray⟩:ByteArray) n.toNat this];simp[ByteArray.getElem_eq_getElem_data,bd,g]);simp[execOp,f,d.str_inv,c.int_inv,Instr.index,run_underlying (jd i),asIntOf,m,B]};.exact h.elim
theorem al7{f:FuncId}{b:Array Operand}(g:o.op= .makeFunc (.func f) #[] b):LOp P o ρ σ (.fn f (b.toList.map ρ)) [] []:=by refine ar λs hs x a j w h d=>⟨.func (.func f) #[] (b.map a.eval),by simp[execOp,g,Instr.makeFunc],.fn f Ad λi u c=> ?_⟩;rw[b0s]at c;cases hc:b.toList[i]? with|none=>rw[hc]at c;cases c|some y=>rw[hc]at c;cases c;have e:b[i]? =some y:=Dc;rw[b1c,b6c,e];exact d y (by simp[g,Op.operands];exact b2b e)
def bg2(mx:Bool)(u v:PV)(K:KT):Prop:=
 match u,v with
 | .int k a,.int _ b=>K (.int k (if mx then(if a<b then b else a)else(if b<a then b else a))) [] []
 |_,_=>False
theorem agd{mx:Bool}{ts:Array TypeId}(f:o.op= .call {callee:= .builtin (if mx then .max else .min),args:= #[y,z],argTypes:=ts})(h:bg2 mx (ρ y) (ρ z) K):
  ∃u δ F,LOp P o ρ σ u δ F/\K u δ F:=by unfold bg2 at h;split at h;{rename_i k a' k' b hy hz;refine⟨_,_,_,ar λs hs x a i w g c=> ?_,h⟩;have e:=c y Fc;have d:=c z Fc;rw[hy]at e;rw[hz]at d;refine⟨_,?_,.pure (.int _ _)⟩;cases mx<;>simp[execOp,f,resolve,invoke,builtin,e.int_inv,d.int_inv,Builtin.min_,Builtin.max_,Builtin.min2,Builtin.max2]};.exact h.elim
end Go.Proofs.Am
