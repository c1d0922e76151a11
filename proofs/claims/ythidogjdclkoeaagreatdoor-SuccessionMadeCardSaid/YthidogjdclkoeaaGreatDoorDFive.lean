/- DFive. -/
import Derived.Test.YthidogjdclkoeaaGreatDoorDFour
import Derived.Test.YthidogjdclkoeaaGreatDoorTX1
set_option linter.unusedSimpArgs false
set_option linter.unusedVariables false
namespace Go.Proofs.Am
open Go Go.RowKit
open Go.Proofs
abbrev Gp:=Ct×List Int
def an7(t:List UInt8)(G:List Gp):Option Nat:=G.findIdx? fun g=>decide (eb g.1=t)
def u2(j:Nat):List Gp->List (PV×PV)
 |[]=>[]
 |g::r=>(.str (eb g.1),.int .i64 j)::u2 (j+1) r
def td(j:Nat):List Gp->List (List PV)
 |[]=>[]
 |g::r=>[.vs (g.1.li.map i1),.vs (g.1.pi.map pn),.os (j+500) g.2.length]::td (j+1) r
def ur(G:List Gp):List Box:=G.map fun g=> .arr 3 1 false (g.2.map i1)
def cG(G:List Gp)(y:Vt):List Gp:=
 match an7 (eb y.x) G with
 |none=>G++[(y.x,[y.k])]
 |some j=>G.set j ((el G j).1,(el G j).2++[y.k])
def cF(seats:List Int)(v:List Vt)(i:Nat):List Gp:=(v.take i).foldl (fun G y=>if y.k∈seats then cG G y else G) []
theorem xg{seats:List Int}{v:List Vt}{i:Nat}(h:i<v.length):cF seats v (i+1)=if(el v i).k∈seats then cG (cF seats v i) (el v i)else cF seats v i:=by
 simp only[cF,c9 h,List.foldl_append,List.foldl_cons,List.foldl_nil]
theorem aws(G:List Gp)(g:Gp): ∀j,u2 j (G++[g])=u2 j G++[(.str (eb g.1),.int .i64 ((j+G.length:Nat):Int))]:=by
 induction G with
 |nil=>intro j;rfl
 |cons a G ih=>
  intro j;simp only[List.cons_append,u2,ih,List.length_cons];rw[show j+1+G.length=j+(G.length+1) by omega]
theorem alh(g:Gp): ∀(G:List Gp) (j k:Nat),eb g.1=eb (el G k).1->k<G.length->u2 j (G.set k g)=u2 j G
 |[],j,k,_,h=>by simp at h
 |a::G,j,0,h,_=>by
  simp only[List.set_cons_zero,u2]
  rw[show eb g.1=eb a.1 from h]
 |a::G,j,k+1,h,hk=>by
  simp only[List.set_cons_succ,u2];rw[alh g G (j+1) k h (by simpa using hk)]
theorem aa6: ∀(G:List Gp) (j:Nat),(td j G).length=G.length
 |[],_=>rfl
 |a::G,j=>by simp[td,aa6 G (j+1)]
theorem awz(G:List Gp)(g:Gp): ∀j,td j (G++[g])=td j G++[[.vs (g.1.li.map i1),.vs (g.1.pi.map pn),.os (j+G.length+500) g.2.length]]:=by
 induction G with
 |nil=>intro j;rfl
 |cons a G ih=>
  intro j;simp only[List.cons_append,td,ih,List.length_cons];rw[show j+1+G.length=j+(G.length+1) by omega]
theorem akk(g:Gp): ∀(G:List Gp) (j k:Nat),k<G.length->td j (G.set k g)=(td j G).set k [.vs (g.1.li.map i1),.vs (g.1.pi.map pn),.os (j+k+500) g.2.length]
 |[],j,k,h=>by simp at h
 |a::G,j,0,_=>rfl
 |a::G,j,k+1,hk=>by
  simp only[List.set_cons_succ,td];rw[akk g G (j+1) k (by simpa using hk),show j+1+k=j+(k+1) by omega]
theorem ao7: ∀(G:List Gp) (j k:Nat),k<G.length->db (td j G) k=[.vs ((el G k).1.li.map i1),.vs ((el G k).1.pi.map pn),.os (j+k+500) (el G k).2.length]
 |[],j,k,h=>by simp at h
 |a::G,j,0,_=>rfl
 |a::G,j,k+1,hk=>by
  have:=ao7 G (j+1) k (by simpa using hk);rw[show j+1+k=j+(k+1) by omega]at this;exact this
theorem zh(t:List UInt8): ∀(G:List Gp) (j i:Nat),lc (.str t) (u2 j G) i=some ((an7 t G).map (· +i))
 |[],j,i=>by simp[u2,lc,an7]
 |g::G,j,i=>by
  have ih:=zh t G (j+1) (i+1);simp only[u2,lc,aai,an7,List.findIdx?_cons];by_cases h:t=eb g.1
  ·have h':eb g.1=t:=h.symm;simp[h']
  ·have h': ¬eb g.1=t:=fun e=>h e.symm;simp only[h,h',decide_false,Bool.false_eq_true,if_false];rw[ih];simp only[an7,Option.map_map]
   cases List.findIdx? (fun g=>decide (eb g.1=t)) G with
   |none=>rfl
   |some x=>simp;omega
theorem aiv(t:List UInt8)(G:List Gp):lc (.str t) (u2 0 G) 0=some (an7 t G):=by
 rw[zh]
 cases an7 t G<;>simp
theorem pe{t:List UInt8}{G:List Gp}{i:Nat}(h:an7 t G=some i):i<G.length/\eb (el G i).1=t:=by
 unfold an7 at h;rw[List.findIdx?_eq_some_iff_getElem]at h;obtain⟨hi,h1,_⟩:=h;refine⟨hi,?_⟩;simpa [el,bq,bf hi] using h1
theorem ar2: ∀(G:List Gp) (j k:Nat),k<G.length->((u2 j G).getD k (PV.undef,PV.undef)).2= .int .i64 ((j+k:Nat):Int)
 |[],j,k,h=>by simp at h
 |a::G,j,0,_=>rfl
 |a::G,j,k+1,hk=>by
  have:=ar2 G (j+1) k (by simpa using hk);rw[show j+1+k=j+(k+1) by omega]at this;simpa [u2] using this
def cFr(v:List Vt)(seats:List Int)(n:Nat)(i:Nat):AFr:=[(13,.vs (v.map vt7)),(1,.vs (seats.map i1)),(6,.mh 12),(5,.os 99 n),(14,.int .i64 v.length),(15,.int .i64 i)]
def cSt(G:List Gp):ASt:=(12,.mp (u2 0 G))::(99,.arh 150 3 (td 0 G))::(900046,.arr 3 1 false [])::grp 500 (ur G)
theorem a1v{v:List Vt}{seats:List Int}{n i:Nat}{L:Nat->PV}(h13:L 13= .vs (v.map vt7))(h1:L 1= .vs (seats.map i1))(h6:L 6= .mh 12)(h5:L 5= .os 99 n)(h14:L 14= .int .i64 v.length)(h15:L 15= .int .i64 i):
  ∀t,look (cFr v seats n i) t= .undef\/look (cFr v seats n i) t=L t:=by
 intro t;simp only[cFr,look];split
 ·rename_i h;subst h;exact .inr h13.symm
 split
 ·rename_i h;subst h;exact .inr h1.symm
 split
 ·rename_i h;subst h;exact .inr h6.symm
 split
 ·rename_i h;subst h;exact .inr h5.symm
 split
 ·rename_i h;subst h;exact .inr h14.symm
 split
 ·rename_i h;subst h;exact .inr h15.symm
 exact .inl rfl
theorem a2k{G:List Gp}{s:St}(h12:s 12=some (.mp (u2 0 G)))(h99:s 99=some (.arh 150 3 (td 0 G)))(h9:s 900046=some (.arr 3 1 false []))
  (hg: ∀j,j<G.length->s (j+500)=some (.arr 3 1 false ((el G j).2.map i1))): ∀n B,ah (cSt G) n=some B->s n=some B:=by
 intro n B h;simp only[cSt,ah]at h;split at h
 ·rename_i e;subst e;rw[h12];exact h
 split at h
 ·rename_i e;subst e;rw[h99];exact h
 split at h
 ·rename_i e;subst e;rw[h9];exact h
 rw[gz]at h;split at h
 ·rename_i hn;obtain⟨j,rfl⟩: ∃j,n=j+500:=⟨n - 500,by omega⟩;rw[Nat.add_sub_cancel]at h;have hj:=(ca.1 h).1;rw[show(ur G).length=G.length by simp[ur]]at hj;rw[hg j hj,<-h];simp[ur,el,bq,hj]
 ·cases h
theorem ajy: ∀(G:List Gp) (j:Nat) (r:List PV),r∈td j G->∃k,k<G.length/\r=[.vs ((el G k).1.li.map i1),.vs ((el G k).1.pi.map pn),.os (j+k+500) (el G k).2.length]
 |[],j,r,h=>by simp[td]at h
 |a::G,j,r,h=>by
  simp only[td,List.mem_cons]at h;rcases h with rfl|h
  ·exact⟨0,by simp,rfl⟩
  ·obtain⟨k,hk,rfl⟩:=ajy G (j+1) r h;exact⟨k+1,by simpa using hk,by rw[show j+1+k=j+(k+1) by omega];rfl⟩
theorem ays(G:List Gp)(j:Nat)(h:j<G.length)(hj:j<900000 - 500):ah (cSt G) (j+500)≠none:=by
 simp only[cSt,ah];rw[if_neg (by omega),if_neg (by omega),if_neg (by omega),Nat.add_comm,ji];simp[ur,h]
theorem ak2: ∀(G:List Gp) (j:Nat) (e:PV×PV),e∈u2 j G->∃k:Int,e.2= .int .i64 k
 |[],j,e,h=>by simp[u2]at h
 |a::G,j,e,h=>by
  simp only[u2,List.mem_cons]at h;rcases h with rfl|h
  ·exact⟨_,rfl⟩
  ·exact ak2 G (j+1) e h
theorem a7y{P:Program}{N:Nat}{fr:AFr}{σ:ASt}{v:List Vt}{seats:List Int}{G:List Gp}{i:Nat}(hl:G.length<=900)
  (h13:look fr 13= .vs (v.map vt7)) (h1:look fr 1= .vs (seats.map i1)) (h6:look fr 6= .mh 12) (h5:look fr 5= .os 99 G.length) (h14:look fr 14= .int .i64 v.length) (h15:look fr 15= .int .i64 i)
  (s12:ah σ 12=some (.mp (u2 0 G))) (s99:ah σ 99=some (.arh 150 3 (td 0 G))) (s9:ah σ 900046=some (.arr 3 1 false []))
  (sg: ∀j,j<G.length->ah σ (j+500)=some (.arr 3 1 false ((el G j).2.map i1))) (hx: ∀n,1000000<=n->ah σ n=none):
  Cv P N fr σ (cFr v seats G.length i) (cSt G):=by
 refine Cv.weak (a1v h13 h1 h6 h5 h14 h15) (a2k s12 s99 s9 sg) (fun t=> ?_) (fun n B h=> ?_) fun n hn hf=>absurd (hx n hn) hf
 ·have c12:ah (cSt G) 12≠none:=by simp[cSt,ah]
  have c99:ah (cSt G) 99≠none:=by simp[cSt,ah]
  simp only[cFr,look]
  repeat' split
  all_goals first
   |exact .vs _
   |exact .int _ _
   |exact .mh _ c12
   |exact .os _ _ c99
   |exact .undef
 ·simp only[cSt,ah]at h;split at h
  ·cases h
   intro e he;obtain⟨k,hk⟩:=ak2 _ _ e he;rw[hk];exact .int _ _
  split at h
  ·cases h
   intro r hr u hu;obtain⟨k,hk,rfl⟩:=ajy _ _ r hr;simp only[List.mem_cons,List.not_mem_nil,or_false]at hu;rcases hu with rfl|rfl|rfl
   ·exact .vs _
   ·exact .vs _
   ·rw[Nat.zero_add];exact .os _ _ (ays G k hk (by omega))
  split at h
  ·cases h;trivial
  rw[gz]at h;split at h
  ·have:=List.mem_of_getElem? h;obtain⟨g,_,rfl⟩:=List.mem_map.1 this;trivial
  ·cases h
theorem atf(m:Nat): ∀(G:List Gp) (j:Nat),(td j G).map (lf 58 m)=td j G
 |[],_=>rfl
 |a::G,j=>by
  have h:rn 58 m (j+500)=j+500:=by unfold rn;rw[if_neg (by omega)]
  simp only[td,List.map_cons,lf,renV,h,atf m G (j+1)]
theorem apy(m:Nat): ∀(G:List Gp) (j:Nat),(u2 j G).map (fun p=>(p.1,renV 58 m p.2))=u2 j G
 |[],_=>rfl
 |a::G,j=>by
  simp only[u2,List.map_cons,renV,apy m G (j+1)]
theorem a1x(G:List Gp)(j:Nat)(h:j<G.length)(hj:j<900000 - 500):ah (cSt G) (j+500)=some (.arr 3 1 false ((el G j).2.map i1)):=by
 simp only[cSt,ah];rw[if_neg (by omega),if_neg (by omega),if_neg (by omega),Nat.add_comm,ji];simp[ur,el,bq,h]
theorem axt(G:List Gp)(n:Nat)(h:G.length+900047<=n):ah (cSt G) n=none:=by
 simp only[cSt,ah];rw[if_neg (by omega),if_neg (by omega),if_neg (by omega),gz,if_pos (by omega)];exact List.getElem?_eq_none (by simp[ur];omega)
theorem a9i{P:Program}{N:Nat}{fr:AFr}{σ:ASt}{v:List Vt}{seats:List Int}{G:List Gp}{g:Gp}{i:Nat}(hl:G.length<900)
  (h13:look fr 13= .vs (v.map vt7)) (h1:look fr 1= .vs (seats.map i1)) (h6:look fr 6= .mh 12) (h5:look fr 5= .os 99 (G.length+1)) (h14:look fr 14= .int .i64 v.length) (h15:look fr 15= .int .i64 i)
  (s12:ah σ 12=some (.mp (u2 0 G++[(.str (eb g.1),.int .i64 G.length)]))) (s99:ah σ 99=some (.arh 150 3 (td 0 G++[[.vs (g.1.li.map i1),.vs (g.1.pi.map pn),.os 58 g.2.length]]))) (s9:ah σ 900046=some (.arr 3 1 false []))
  (s58:ah σ 58=some (.arr 3 1 false (g.2.map i1))) (sm:ah σ (G.length+500)=none)
  (sg: ∀j,j<G.length->ah σ (j+500)=some (.arr 3 1 false ((el G j).2.map i1))) (hx: ∀n,1000000<=n->ah σ n=none):
  Cv P N fr σ (cFr v seats (G++[g]).length i) (cSt (G++[g])):=by
 have hr: ∀k,k≠58->ah (yf 58 (G.length+500) σ) k=if k=G.length+500 then(ah σ 58).map (ju 58 (G.length+500))else(ah σ k).map (ju 58 (G.length+500)):=fun k hk=>(qe sm k hk).2
 refine Cv.trans (Cv.rn [(58,G.length+500)] ⟨⟨sm,by omega,by omega,by omega⟩,trivial⟩) ?_;refine a7y (fr:=avd 58 (G.length+500) fr) (σ:=yf 58 (G.length+500) σ) (by simp;omega) ?_ ?_ ?_ ?_ ?_ ?_ ?_ ?_ ?_ (fun j hj=> ?_) fun n hn=> ?_
 ·rw[io,h13];rfl
 ·rw[io,h1];rfl
 ·rw[io,h6];rfl
 ·rw[io,h5,List.length_append];rfl
 ·rw[io,h14];rfl
 ·rw[io,h15];rfl
 ·rw[hr 12 (by omega),if_neg (by omega),s12,aws];simp only[Option.map_some,ju,List.map_append,apy,List.map_cons,List.map_nil,renV,Nat.zero_add]
 ·rw[hr 99 (by omega),if_neg (by omega),s99,awz];have h:rn 58 (G.length+500) 58=G.length+500:=by unfold rn;rw[if_pos rfl]
  simp only[Option.map_some,ju,List.map_append,atf,List.map_cons,List.map_nil,lf,renV,h,Nat.zero_add]
 ·rw[hr 900046 (by omega),if_neg (by omega),s9];rfl
 ·rw[hr (j+500) (by omega)];by_cases hjl:j=G.length
  ·subst hjl;rw[if_pos rfl,s58];simp[ju,el]
  ·have hj':j<G.length:=by simp at hj;omega
   rw[if_neg (by omega),sg j hj'];simp[ju,el,List.getElem?_append_left hj']
 ·rw[hr n (by omega),if_neg (by omega),hx n hn];rfl
end Go.Proofs.Am
